/- Texts of this claim joined: XQ XR XS XT PlanD XU. -/
import Derived.Test.YtnnobdcbmagbaaaEv00
import Derived.Test.YtnnobdcbmagbaaaEv02
import Derived.Test.YtnnobdcbmagbaaaEv18
import Derived.Test.YtnnobdcbmagbaaaEv23
import Derived.Test.YtnnobdcbmagbaaaEv24
set_option linter.unusedVariables false
set_option linter.unusedSimpArgs false

/- The contract of cutroomref26.Eval. -/
namespace Go.Proofs.Ytnnobdcbmagbaaa
open Go.RowKit
set_option linter.unusedVariables false

theorem ev_no {P : Nat → Pic} {m : Nat} {W H : Int} {e : Ex} (h : okAll P m W H e = false) : Hid (evE P m W H e = 1 ∧ evR P m W H e = Fr.zero) := Lib.hid ⟨by simp [evE, h], by simp [evR, h]⟩
theorem ev_yes {P : Nat → Pic} {m : Nat} {W H : Int} {e : Ex} (h : okAll P m W H e = true) : Hid (evE P m W H e = (evX P m W H e).1 ∧ evR P m W H e = (evX P m W H e).2) := Lib.hid ⟨by simp [evE, h], by simp [evR, h]⟩

set_option maxRecDepth 100000 in
set_option maxHeartbeats 8000000 in
theorem rEval_any (v l : Value) (e : Ex) (m : Nat) (P : Nat → Pic) (W H : Int) (w : World) (hv : XA w v e) (hl : LA w l m P) :
    Calls Try.prog 36 #[v, l, .int .i64 W, .int .i64 H] w fun r w' => ∃ x, r = .returned (.tuple #[x, .int .i64 (evE P m W H e)]) ∧ FA w' x (evR P m W H e) ∧ Below w.heap.size w w' := by
  have HV := hv
  obtain ⟨f, eao, ec, hvs⟩ : ∃ (f : Fld) (b : Option Addr) (c : Nat), v = f.val (Value.slice b f.n c) := by
    cases hv with
    | mk f a ao c g hf hc hcell hsub => exact ⟨f, ao, c, rfl⟩
  subst hvs
  have HLA := Lib.hid hl
  obtain ⟨lo, lc, rfl, hlc, hm, -⟩ := hl
  clear hv
  have DV := rvalid_any HV
  have SV := reval_any HV W H (.slice lo m lc) m P
  clear HV
  unfold Fld.val at DV SV ⊢
  replace SV := Lib.hid SV
  go_enter Try.func36, Try.ntmps36
  go_wp2_with fail
  refine (DV _ (by go_grown)).mono ?_
  clear DV
  rintro r w1 ⟨rfl, hb⟩
  have W1 : Below w.heap.size w w1 := Below.trans (by go_grown) (hb.mono (by simp; omega))
  have n1 := hb.size
  simp at n1
  have BE := Lib.hid (show B8 w1 w.heap.size f (.slice eao f.n ec) from ((B8.of_alloc w w.heap.size f (.slice eao f.n ec) 58 rfl).below (below_box _ _)).below hb)
  have HR1 := Lib.hid (show BX w1 (w.heap.size + 1) (.int .i64 0) (.int .i64 0) (.slice none 0 0) (.slice none 0 0) (.slice none 0 0) from (BX.of_alloc' _ _ _ _ _ _ _ _ (by simp)).below hb)
  have FR1 := Lib.hid (show ∀ o, w1.frozen? ⟨w.heap.size + 1, o, none⟩ = false from fun o => (hb.frozen (by simp)).trans (by simp [go_sem]))
  clear hb
  by_cases hx : okX e = true
  rotate_left
  · have hx' : okX e = false := by simpa using hx
    have HNo := ev_no (P := P) (m := m) (W := W) (H := H) (show okAll P m W H e = false by simp [okAll, hx'])
    have HR3 := HR1
    obtain ⟨k0, k1, k2, k3, k4⟩ := HR3.out
    have z1 := FR1.out
    rw [hx']
    clear hx hx'
    go_wp2_with fail
    refine bodyPost_ret (results_cell_tmp Try.results36 _ _ _ rfl rfl (load_fr (HR3.out.put5 _ _ _ _ _))) rfl ?_
    exact ⟨_, by rw [HNo.out.1]; rfl, by rw [HNo.out.2]; exact FA.zero _, by go_grown⟩
  have HX := Lib.hid hx
  rw [hx]
  clear hx
  go_wp2_with fail
  refine (size_any _ _ _).mono ?_
  rintro r w2 ⟨rfl, rfl⟩
  by_cases hs : okSize W H = true
  rotate_left
  · have hs' : okSize W H = false := by simpa using hs
    have HNo := ev_no (P := P) (m := m) (W := W) (H := H) (show okAll P m W H e = false by simp [okAll, hs'])
    have HR3 := HR1
    obtain ⟨k0, k1, k2, k3, k4⟩ := HR3.out
    have z1 := FR1.out
    rw [hs']
    clear hs hs'
    go_wp2_with fail
    refine bodyPost_ret (results_cell_tmp Try.results36 _ _ _ rfl rfl (load_fr (HR3.out.put5 _ _ _ _ _))) rfl ?_
    exact ⟨_, by rw [HNo.out.1]; rfl, by rw [HNo.out.2]; exact FA.zero _, by go_grown⟩
  have HS := Lib.hid hs
  rw [hs]
  clear hs
  have hml := hm
  go_wp2_with fail
  go_loopw [10] (fun i wr => ∃ k : Nat, k ≤ m ∧ i = .int .i64 (k : Int) ∧ Below w1.heap.size w1 wr ∧ Hid (okL P W H k = true)) (fun i _ => m - (intOf i).toNat)
  case atStart => exact ⟨0, Nat.zero_le _, rfl, Below.refl _ _, Lib.hid rfl⟩
  case round =>
    obtain ⟨k, hk, rfl, hB, HO⟩ := hrel
    have hWr : Below w.heap.size w wr := W1.trans (hB.mono (by omega))
    have nr := hB.size
    have HRr := Lib.hid (HR1.out.below hB)
    have FRr := Lib.hid (fun o => (hB.frozen (p := ⟨w.heap.size + 1, o, none⟩) (by simp; omega)).trans (FR1.out o))
    by_cases hlt : k < m
    · obtain ⟨lo', lc', e', hlc', hm', HLr⟩ := HLA.out.below hWr
      simp only [Value.slice.injEq, true_and] at e'
      obtain ⟨rfl, rfl⟩ := e'
      obtain ⟨hfit, b, o, y, u, z, rfl, hC, hF⟩ := HLr k hlt
      obtain ⟨ay, cy, au, cu, av, cv, hsh⟩ := hF.shape
      simp only [Value.agg.injEq, Array.mk.injEq, List.cons.injEq, and_true, true_and] at hsh
      obtain ⟨rfl, rfl, rfl⟩ := hsh
      have HC := Lib.hid hC
      obtain ⟨q0, q1, q2, q3, q4, q5, q6⟩ := hC
      have HNk := fun (h : okP W H (P k) = false) => ev_no (P := P) (m := m) (W := W) (H := H) (e := e) (show okAll P m W H e = false by simp [okAll, okL_no (P := P) (W := W) (H := H) (k := k) h hlt])
      have HOk := fun (h : okP W H (P k) = true) => (show okL P W H (k + 1) = true by simp only [okL, HO.out, Bool.true_and]; exact h)
      replace HNk := Lib.hid HNk
      replace HOk := Lib.hid HOk
      clear hfit HLr
      obtain ⟨Q, hQ⟩ : ∃ Q, Q = P k := ⟨_, rfl⟩
      rw [← hQ] at q0 q1 q2 q3 q4 q5 q6 hF HNk HOk HC
      clear hQ
      have HF := Lib.hid hF
      have HB := Lib.hid hB
      clear hF hB
      go_wp2_with fail
      refine (r20valid_any _ Q.fr _ HF.out).mono ?_
      rintro r w3 ⟨rfl, hw3⟩
      have B3 : Below wr.heap.size wr w3 := by rw [← hw3]; exact below_box _ _
      clear hw3 q0 q1 q2 q3 q4 q5 q6
      obtain ⟨q0, q1, q2, q3, q4, q5, q6⟩ := HC.out.below B3
      have W3 : Below w.heap.size w w3 := hWr.trans (B3.mono (by omega))
      have HB3 := Lib.hid (HB.out.trans (B3.mono nr))
      have HR3 := Lib.hid (HRr.out.below B3)
      have z1 : ∀ o, w3.frozen? ⟨w.heap.size + 1, o, none⟩ = false := fun o => (B3.frozen (p := ⟨w.heap.size + 1, o, none⟩) (by simp; omega)).trans (FRr.out o)
      clear B3
      by_cases qo : Q.fr.ok = true
      rotate_left
      · have qo' : Q.fr.ok = false := by simpa using qo
        have HNo := HNk.out (by simp [okP, qo'])
        obtain ⟨k0, k1, k2, k3, k4⟩ := HR3.out
        rw [qo']
        clear qo qo'
        go_wp2_with fail
        refine bodyPost_ret (results_cell_tmp Try.results36 _ _ _ rfl rfl (load_fr (HR3.out.put5 _ _ _ _ _))) rfl ?_
        exact ⟨_, by rw [HNo.out.1]; rfl, by rw [HNo.out.2]; exact FA.zero _, by go_grown⟩
      by_cases qw : Q.fr.W = W
      rotate_left
      · have HNo := HNk.out (by simp [okP, qw])
        have qw' : (Q.fr.W != W) = true := by rw [bne_iff_ne]; exact qw
        obtain ⟨k0, k1, k2, k3, k4⟩ := HR3.out
        rw [qo]
        clear qo
        go_wp2_with fail
        refine bodyPost_ret (results_cell_tmp Try.results36 _ _ _ rfl rfl (load_fr (HR3.out.put5 _ _ _ _ _))) rfl ?_
        exact ⟨_, by rw [HNo.out.1]; rfl, by rw [HNo.out.2]; exact FA.zero _, by go_grown⟩
      have qw' : (Q.fr.W != W) = false := by rw [bne_eq_false_iff_eq]; exact qw
      by_cases qh : Q.fr.H = H
      rotate_left
      · have HNo := HNk.out (by simp [okP, qh])
        have qh' : (Q.fr.H != H) = true := by rw [bne_iff_ne]; exact qh
        obtain ⟨k0, k1, k2, k3, k4⟩ := HR3.out
        rw [qo]
        clear qo qw
        go_wp2_with fail
        refine bodyPost_ret (results_cell_tmp Try.results36 _ _ _ rfl rfl (load_fr (HR3.out.put5 _ _ _ _ _))) rfl ?_
        exact ⟨_, by rw [HNo.out.1]; rfl, by rw [HNo.out.2]; exact FA.zero _, by go_grown⟩
      have qh' : (Q.fr.H != H) = false := by rw [bne_eq_false_iff_eq]; exact qh
      have HOn := Lib.hid (HOk.out (by simp [okP, qo, qw, qh]))
      rw [qo]
      clear qo qw qh
      go_wp2_with fail
      go_round
      case rel => exact ⟨k + 1, by omega, by go_num, HB3.out, HOn⟩
      case measure => simp [intOf]; omega
    · obtain rfl : k = m := by omega
      have HYes := ev_yes (P := P) (m := k) (W := W) (H := H) (e := e) (by simp [okAll, HX.out, HS.out, HO.out])
      obtain ⟨e0, e1, e2, e3, e4, e5, e6, e7⟩ := BE.out.below hB
      go_wp2_with fail
      refine (SV.out HS.out (fun i hi => okL_at HO.out i hi) HX.out _ hWr (HLA.out.below hWr)).mono ?_
      rintro r w3 ⟨x, rfl, hFx, hb3⟩
      have W3 : Below w.heap.size w w3 := hWr.trans (hb3.mono (by omega))
      have HR3 := Lib.hid (HRr.out.below hb3)
      have z1 : ∀ o, w3.frozen? ⟨w.heap.size + 1, o, none⟩ = false := fun o => (hb3.frozen (p := ⟨w.heap.size + 1, o, none⟩) (by simp; omega)).trans (FRr.out o)
      obtain ⟨k0, k1, k2, k3, k4⟩ := HR3.out
      have HFx := Lib.hid hFx
      obtain ⟨X, hX⟩ : ∃ X, X = evX P k W H e := ⟨_, rfl⟩
      rw [← hX] at hFx HFx HYes ⊢
      clear hX
      obtain ⟨ay, cy, au, cu, av, cv, rfl⟩ := hFx.shape
      clear hFx hb3 e0 e1 e2 e3 e4 e5 e6 e7 hB
      go_wp2_with fail
      refine bodyPost_ret (results_cell_tmp Try.results36 _ _ _ rfl rfl (load_fr (HR3.out.put5 _ _ _ _ _))) rfl ?_
      exact ⟨_, by rw [HYes.out.1]; rfl, by rw [HYes.out.2]; exact HFx.out.put5 k0 k1 k2 k3 k4, by go_grown⟩

end Go.Proofs.Ytnnobdcbmagbaaa

/- A list of structs of the call's own, in a block that holds no bytes: one more element, many more. -/
namespace Go.Proofs.Ytnnobdcbmagbaaa
open Go.RowKit
set_option linter.unusedVariables false

def Plain (l : List Value) : Prop := ∀ u ∈ l, ∀ q, u ≠ .int .u8 q
theorem Plain.app {a b : List Value} (h : Plain a) (k : Plain b) : Plain (a ++ b) := fun u hu q => by
  rcases List.mem_append.1 hu with hu | hu
  · exact h u hu q
  · exact k u hu q
theorem Plain.take {a : List Value} (h : Plain a) (n : Nat) : Plain (a.take n) := fun u hu q => h u (List.mem_of_mem_take hu) q
theorem Plain.drop {a : List Value} (h : Plain a) (n : Nat) : Plain (a.drop n) := fun u hu q => h u (List.mem_of_mem_drop hu) q

/-- v is the call's own list of k elements of type E (s cells each), whose cells are xs. -/
def RowX (w : World) (B : Nat) (E : TypeId) (s : Nat) (v : Value) (k : Nat) (xs : List Value) : Prop :=
  (v = .slice none 0 0 ∧ k = 0 ∧ xs = []) ∨ ∃ g cap cur, v = .slice (some ⟨g, 0, none⟩) k cap ∧ B ≤ g ∧ w.heap[g]? = some (.cells cur E (0, 0)) ∧ k ≤ cap ∧ cap ≤ maxLen ∧ cur.size = cap * s ∧ Plain cur.toList ∧
    cur.toList.take (k * s) = xs ∧ xs.length = k * s
theorem RowX.below {w w' : World} {B k s : Nat} {E : TypeId} {v : Value} {xs : List Value} (h : RowX w B E s v k xs) (hb : Below w.heap.size w w') : RowX w' B E s v k xs := by
  rcases h with h | ⟨g, cap, cur, h1, h2, h3, h⟩
  · exact Or.inl h
  · exact Or.inr ⟨g, cap, cur, h1, h2, (hb.block g (Array.getElem?_eq_some_iff.1 h3).1).trans h3, h⟩
theorem RowX.cell {w : World} {B k s : Nat} {E : TypeId} {g cap : Nat} {xs : List Value} (h : RowX w B E s (.slice (some ⟨g, 0, none⟩) k cap) k xs) {j : Nat} {u : Value} (hj : xs[j]? = some u) : w.cell? ⟨g, j, none⟩ = some u := by
  rcases h with ⟨h, _⟩ | ⟨g', cap', cur, h1, h2, h3, h4, h5, h6, h7, h8, h9⟩
  · simp at h
  · simp only [Value.slice.injEq, Option.some.injEq, Addr.mk.injEq, and_true, true_and] at h1
    obtain ⟨rfl, rfl⟩ := h1
    have hl := (List.getElem?_eq_some_iff.1 hj).1
    rw [← h8, List.getElem?_take] at hj
    split at hj
    · simp only [World.cell?, h3]
      simpa using hj
    · cases hj

/-- What an append leaves: bytes of frames stay, old blocks but the row's own stay. -/
structure Grew (w w' : World) (B : Nat) : Prop where
  fa : ∀ v F, FA w v F → FA w' v F
  below : Below B w w'

set_option maxHeartbeats 1000000 in
theorem append_x (w : World) (B : Nat) (t E : TypeId) (s bytes : Nat) (z : Value) (ht : Try.prog.underlying t = some (.slice E)) (hinfo : (Try.prog.info? E).map (fun i => (i.zero, i.size, i.bytes)) = some (some z, s, bytes))
    (hz : ∀ n, Plain (Builtin.zeroCells z.cells n).toList ∧ (Builtin.zeroCells z.cells n).size = n * s) (v : Value) (k : Nat) (xs : List Value) (h : RowX w B E s v k xs) (hB : B ≤ w.heap.size) (a : Addr) (m c : Nat) (news : List Value) (hl : news.length = m * s)
    (hnews : ∀ j u, news[j]? = some u → w.cell? (a.add j) = some u) (h1 : ∀ u ∈ news, u.oneCell' = true) (hp : Plain news) (hm : 0 < m) (h63 : k + m ≤ maxLen) (hfit : ∀ cap, k ≤ cap → cap < k + m → Builtin.nextslicecap (k + m) cap * bytes ≤ 281474976710656) :
    ∃ v' w', (Builtin.append_ #[t, t] t #[v, .slice (some a) m c]).run Try.prog w = .ok v' w' ∧ RowX w' B E s v' (k + m) (xs ++ news) ∧ Grew w w' B ∧ v' ≠ .slice none 0 0 ∧
      (∀ b, b < w.heap.size → (∀ g cap, v = .slice (some ⟨g, 0, none⟩) k cap → b ≠ g) → w'.heap[b]? = w.heap[b]?) ∧ w.heap.size ≤ w'.heap.size := by
  obtain ⟨i0, hi, hz0, hz1, hz2⟩ := info_parts hinfo
  have hl' : news.length = m * i0.size := by rw [hz1]; exact hl
  have hs63 : k + m ≤ 9223372036854775807 := by unfold maxLen at h63; omega
  rcases h with ⟨rfl, rfl, rfl⟩ | ⟨g, cap, cur, rfl, h2, h3, h4, h5, h6, h7, h8, h9⟩
  · have h48 := hfit 0 (Nat.le_refl _) (by omega)
    rw [Nat.zero_add, nextslicecap_zero hm] at h48
    have hr := run_append_nil (P := Try.prog) w t t E i0 z ht hi hz0 a m c news hl' hnews hm (by omega) (by rw [hz2]; exact h48)
    have hcap : m ≤ grownCap w m 0 E := grownCap_ge w m 0 E
    have hb : Below w.heap.size w (w.drew.alloc (.cells (news.toArray ++ Builtin.zeroCells z.cells (grownCap w m 0 E - m)) E)) := ((Below.refl _ w).drew).alloc (by simp) _
    have hh := (MapKept.heap_alloc w.drew (.cells (news.toArray ++ Builtin.zeroCells z.cells (grownCap w m 0 E - m)) E)).1
    refine ⟨_, _, hr, Or.inr ⟨w.heap.size, grownCap w m 0 E, _, by rw [Nat.zero_add], hB, hh, by omega, grownCap_le_maxLen w m 0 E (by omega), ?_, ?_, ?_, ?_⟩, ⟨fun v F hF => hF.below hb, hb.mono hB⟩, by simp, fun b hb' _ => hb.block b hb', hb.size⟩
    · rw [Array.size_append, (hz _).2]
      have e1 : news.toArray.size = m * s := by simpa using hl
      rw [e1, ← Nat.add_mul, Nat.add_sub_cancel' hcap]
    · rw [Array.toList_append]
      exact Plain.app hp (hz _).1
    · rw [Array.toList_append]
      simp only [Nat.zero_add, List.nil_append]
      rw [List.take_append_of_le_length (by simp [hl]), List.take_of_length_le (by simp [hl])]
    · simpa using hl
  · have hcs : cur.toList.length = cap * s := by simpa using h6
    by_cases hroom : k + m ≤ cap
    · have hle : (k + m) * s ≤ cap * s := Nat.mul_le_mul_right _ hroom
      have hfit2 : k * i0.size + news.length ≤ cur.size := by rw [hz1, hl, h6, ← Nat.add_mul]; exact hle
      have hr := run_append_room (P := Try.prog) w t t E i0 ht hi g k cap cur h3 a m c news hl' hnews h1 hroom hfit2
      rw [hz1] at hr hfit2
      have hh := setRow_heap w g cur (cur.toList.take (k * s) ++ news ++ cur.toList.drop (k * s + news.length)).toArray E (0, 0) h3
      have hsame : ∀ b, b < w.heap.size → b ≠ g → (w.setRow g (cur.toList.take (k * s) ++ news ++ cur.toList.drop (k * s + news.length)).toArray).heap[b]? = w.heap[b]? := fun b _ hn => setRow_other w g b _ hn
      have hnb : ∀ o q, w.cell? ⟨g, o, none⟩ ≠ some (.int .u8 q) := fun o q e => by
        have e' : cur.toList[o]? = some (.int .u8 q) := by
          simp only [World.cell?, h3] at e
          simpa using e
        exact h7 _ (List.mem_of_getElem? e') q rfl
      refine ⟨_, _, hr, Or.inr ⟨g, cap, _, rfl, h2, hh, hroom, h5, ?_, ?_, ?_, ?_⟩, ⟨fun v F hF => hF.only hnb hsame, ⟨rfl, rfl, rfl, by simp [World.setRow], fun j hj => setRow_other w g j _ (by omega)⟩⟩, by simp, fun b hb' hne => hsame b hb' (hne g cap rfl), by simp [World.setRow]⟩
      · simp only [List.size_toArray, List.length_append, List.length_take, List.length_drop, hcs]
        rw [hl] at hfit2 ⊢
        omega
      · exact Plain.app (Plain.app (h7.take _) hp) (h7.drop _)
      · rw [List.take_append_of_le_length (by rw [List.length_append, List.length_take, hcs, hl, Nat.add_mul]; omega), List.take_of_length_le (by rw [List.length_append, List.length_take, hcs, hl, Nat.add_mul]; omega), h8]
      · rw [List.length_append, h9, hl, Nat.add_mul]
    · have holds : ∀ j u, xs[j]? = some u → w.cell? ((⟨g, 0, none⟩ : Addr).add j) = some u := fun j u hu => by
        have hadd : (⟨g, 0, none⟩ : Addr).add j = ⟨g, j, none⟩ := by unfold Addr.add; split <;> simp_all
        rw [hadd]
        rw [← h8, List.getElem?_take] at hu
        split at hu
        · simp only [World.cell?, h3]
          simpa using hu
        · cases hu
      have h48 := hfit cap h4 (by omega)
      have hr := run_append_grow (P := Try.prog) w t t E i0 z ht hi hz0 ⟨g, 0, none⟩ k cap xs (by rw [hz1]; exact h9) holds a m c news hl' hnews (by omega) (by omega) (by rw [hz2]; exact h48)
      have hcap : k + m ≤ grownCap w (k + m) cap E := grownCap_ge w _ cap E
      have hb : Below w.heap.size w (w.drew.alloc (.cells (xs.toArray ++ news.toArray ++ Builtin.zeroCells z.cells (grownCap w (k + m) cap E - (k + m))) E)) := ((Below.refl _ w).drew).alloc (by simp) _
      have hh := (MapKept.heap_alloc w.drew (.cells (xs.toArray ++ news.toArray ++ Builtin.zeroCells z.cells (grownCap w (k + m) cap E - (k + m))) E)).1
      have hpx : Plain xs := by rw [← h8]; exact h7.take _
      refine ⟨_, _, hr, Or.inr ⟨w.heap.size, grownCap w (k + m) cap E, _, rfl, hB, hh, hcap, grownCap_le_maxLen w _ cap E h63, ?_, ?_, ?_, ?_⟩, ⟨fun v F hF => hF.below hb, hb.mono hB⟩, by simp, fun b hb' _ => hb.block b hb', hb.size⟩
      · rw [Array.size_append, Array.size_append, (hz _).2]
        have e1 : news.toArray.size = m * s := by simpa using hl
        have e2 : xs.toArray.size = k * s := by simpa using h9
        rw [e1, e2, ← Nat.add_mul, ← Nat.add_mul, Nat.add_sub_cancel' hcap]
      · rw [Array.toList_append, Array.toList_append]
        exact Plain.app (Plain.app hpx hp) (hz _).1
      · rw [Array.toList_append, Array.toList_append]
        rw [List.take_append_of_le_length (by simp [hl, h9, Nat.add_mul]), List.take_of_length_le (by simp [hl, h9, Nat.add_mul])]
      · rw [List.length_append, h9, hl, Nat.add_mul]

end Go.Proofs.Ytnnobdcbmagbaaa

/- Lists of pictures of the call's own; append of a list of pictures. -/
namespace Go.Proofs.Ytnnobdcbmagbaaa
open Go.RowKit
set_option linter.unusedVariables false

/-- The seven cells of a picture. -/
def pic7 (q : Pic) (ay : Option Addr) (cy : Nat) (au : Option Addr) (cu : Nat) (av : Option Addr) (cv : Nat) : List Value :=
  [.string q.media, .int .i64 q.num, .int .i64 q.fr.W, .int .i64 q.fr.H, .slice ay q.fr.nY cy, .slice au q.fr.nU cu, .slice av q.fr.nV cv]
def frV (F : Fr) (ay : Option Addr) (cy : Nat) (au : Option Addr) (cu : Nat) (av : Option Addr) (cv : Nat) : Value := .agg #[.int .i64 F.W, .int .i64 F.H, .slice ay F.nY cy, .slice au F.nU cu, .slice av F.nV cv]
theorem pic7_plain (q : Pic) (ay au av : Option Addr) (cy cu cv : Nat) : Plain (pic7 q ay cy au cu av cv) ∧ ∀ u ∈ pic7 q ay cy au cu av cv, u.oneCell' = true := by
  constructor
  · intro u hu z
    simp only [pic7, List.mem_cons, List.not_mem_nil, or_false] at hu
    rcases hu with rfl | rfl | rfl | rfl | rfl | rfl | rfl <;> simp
  · intro u hu
    simp only [pic7, List.mem_cons, List.not_mem_nil, or_false] at hu
    rcases hu with rfl | rfl | rfl | rfl | rfl | rfl | rfl <;> rfl

/-- The cells xs hold the pictures P 0, .., P (k-1), whose frames read in w. -/
def Holds (w : World) (xs : List Value) (k : Nat) (P : Nat → Pic) : Prop :=
  ∀ i, i < k → (P i).fit ∧ ∃ ay cy au cu av cv, (∀ j, j < 7 → xs[i * 7 + j]? = (pic7 (P i) ay cy au cu av cv)[j]?) ∧ FA w (frV (P i).fr ay cy au cu av cv) (P i).fr
theorem Holds.mono {w w' : World} {xs : List Value} {k : Nat} {P : Nat → Pic} (h : Holds w xs k P) (hf : ∀ v F, FA w v F → FA w' v F) : Holds w' xs k P := fun i hi => by
  obtain ⟨h1, ay, cy, au, cu, av, cv, h2, h3⟩ := h i hi
  exact ⟨h1, ay, cy, au, cu, av, cv, h2, hf _ _ h3⟩
/-- The pictures P followed by the pictures Q. -/
def cat (k : Nat) (P Q : Nat → Pic) (i : Nat) : Pic := if i < k then P i else Q (i - k)
theorem Holds.app {w : World} {xs ys : List Value} {k m : Nat} {P Q : Nat → Pic} (h : Holds w xs k P) (hl : xs.length = k * 7) (h' : Holds w ys m Q) : Holds w (xs ++ ys) (k + m) (cat k P Q) := by
  intro i hi
  by_cases hk : i < k
  · obtain ⟨h1, ay, cy, au, cu, av, cv, h2, h3⟩ := h i hk
    simp only [cat, hk, if_true]
    refine ⟨h1, ay, cy, au, cu, av, cv, fun j hj => ?_, h3⟩
    rw [List.getElem?_append_left (by omega), h2 j hj]
  · obtain ⟨h1, ay, cy, au, cu, av, cv, h2, h3⟩ := h' (i - k) (by omega)
    simp only [cat, hk, if_false]
    refine ⟨h1, ay, cy, au, cu, av, cv, fun j hj => ?_, h3⟩
    rw [List.getElem?_append_right (by omega), ← h2 j hj]
    congr 1
    omega
/-- The cells of a list of pictures. -/
theorem LA.cells {w : World} {b o m c : Nat} {P : Nat → Pic} (h : LA w (.slice (some ⟨b, o, none⟩) m c) m P) :
    ∃ ys : List Value, ys.length = m * 7 ∧ (∀ j u, ys[j]? = some u → w.cell? ((⟨b, o, none⟩ : Addr).add j) = some u) ∧ (∀ u ∈ ys, u.oneCell' = true) ∧ Plain ys ∧ Holds w ys m P := by
  obtain ⟨ao, c', e, hc, hm, H⟩ := h
  simp only [Value.slice.injEq, true_and] at e
  obtain ⟨rfl, rfl⟩ := e
  clear hc hm
  induction m with
  | zero => exact ⟨[], rfl, by simp, by simp, fun u hu => by simp at hu, fun i hi => absurd hi (Nat.not_lt_zero i)⟩
  | succ m ih =>
    obtain ⟨ys, hl, h1, h2, h3, h4⟩ := ih (fun i hi => H i (by omega))
    obtain ⟨hfit, b', o', y, u, z, e, hC, hF⟩ := H m (Nat.lt_succ_self m)
    simp only [Option.some.injEq, Addr.mk.injEq, and_true] at e
    obtain ⟨rfl, rfl⟩ := e
    obtain ⟨ay, cy, au, cu, av, cv, hsh⟩ := hF.shape
    simp only [Value.agg.injEq, Array.mk.injEq, List.cons.injEq, and_true, true_and] at hsh
    obtain ⟨rfl, rfl, rfl⟩ := hsh
    obtain ⟨p1, p2⟩ := pic7_plain (P m) ay au av cy cu cv
    have h5 : Holds w (pic7 (P m) ay cy au cu av cv) 1 (fun _ => P m) := fun i hi => by
      obtain rfl : i = 0 := by omega
      exact ⟨hfit, ay, cy, au, cu, av, cv, fun j hj => by simp, hF⟩
    refine ⟨ys ++ pic7 (P m) ay cy au cu av cv, ?_, ?_, ?_, h3.app p1, ?_⟩
    · rw [List.length_append, hl]; simp [pic7]; omega
    · intro j v hv
      by_cases hj : j < ys.length
      · rw [List.getElem?_append_left hj] at hv
        exact h1 j v hv
      · rw [List.getElem?_append_right (by omega)] at hv
        have hadd : (⟨b, o, none⟩ : Addr).add j = ⟨b, o + j, none⟩ := by unfold Addr.add; split <;> simp_all
        rw [hadd]
        have hj7 : j - ys.length < 7 := by
          have := (List.getElem?_eq_some_iff.1 hv).1
          simpa [pic7] using this
        obtain ⟨d, hd⟩ : ∃ d, d = j - ys.length := ⟨_, rfl⟩
        have ej : o + j = o + m * 7 + d := by omega
        rw [ej]
        rw [← hd] at hv hj7
        match d, hj7 with
        | 0, _ => simp [pic7] at hv; subst hv; exact hC.k0
        | 1, _ => simp [pic7] at hv; subst hv; exact hC.k1
        | 2, _ => simp [pic7] at hv; subst hv; exact hC.k2
        | 3, _ => simp [pic7] at hv; subst hv; exact hC.k3
        | 4, _ => simp [pic7] at hv; subst hv; exact hC.k4
        | 5, _ => simp [pic7] at hv; subst hv; exact hC.k5
        | 6, _ => simp [pic7] at hv; subst hv; exact hC.k6
    · intro v hv
      rcases List.mem_append.1 hv with hv | hv
      · exact h2 v hv
      · exact p2 v hv
    · intro i hi
      have := (h4.app hl h5) i hi
      unfold cat at this
      by_cases hk : i < m
      · simpa only [hk, if_true] using this
      · obtain rfl : i = m := by omega
        simpa only [Nat.lt_irrefl, if_false] using this

/-- v is the call's own list of the pictures P 0, .., P (k-1). -/
def PL (w : World) (B : Nat) (v : Value) (k : Nat) (P : Nat → Pic) : Prop := ∃ xs, RowX w B 68 7 v k xs ∧ Holds w xs k P
theorem PL.below {w w' : World} {B k : Nat} {v : Value} {P : Nat → Pic} (h : PL w B v k P) (hb : Below w.heap.size w w') : PL w' B v k P := by
  obtain ⟨xs, h1, h2⟩ := h
  exact ⟨xs, h1.below hb, h2.mono (fun v F hF => hF.below hb)⟩
theorem PL.LA {w : World} {B k : Nat} {v : Value} {P : Nat → Pic} (h : PL w B v k P) : LA w v k P := by
  obtain ⟨xs, h1, h2⟩ := h
  have h1' := h1
  rcases h1 with ⟨rfl, rfl, _⟩ | ⟨g, cap, cur, rfl, hB, hg, hk, hc, _⟩
  · exact ⟨none, 0, rfl, Nat.le_refl _, by omega, fun i hi => absurd hi (Nat.not_lt_zero i)⟩
  · refine ⟨_, _, rfl, hk, by unfold maxLen at hc; omega, fun i hi => ?_⟩
    obtain ⟨hfit, ay, cy, au, cu, av, cv, hx, hF⟩ := h2 i hi
    refine ⟨hfit, g, 0, _, _, _, rfl, ?_, hF⟩
    have hcell := fun j (hj : j < 7) u (hu : (pic7 (P i) ay cy au cu av cv)[j]? = some u) => h1'.cell ((hx j hj).trans hu)
    simp only [Nat.zero_add]
    exact ⟨hcell 0 (by decide) _ rfl, hcell 1 (by decide) _ rfl, hcell 2 (by decide) _ rfl, hcell 3 (by decide) _ rfl, hcell 4 (by decide) _ rfl, hcell 5 (by decide) _ rfl, hcell 6 (by decide) _ rfl⟩

def zp : Value := .agg #[.string ByteArray.empty, .int .i64 0, .int .i64 0, .int .i64 0, .slice none 0 0, .slice none 0 0, .slice none 0 0]
theorem info68 : (Try.prog.info? 68).map (fun i => (i.zero, i.size, i.bytes)) = some (some zp, 7, 112) := by kernel_rfl
theorem zeros68 (n : Nat) : Plain (Builtin.zeroCells zp.cells n).toList ∧ (Builtin.zeroCells zp.cells n).size = n * 7 := by
  constructor
  · intro u hu q
    simp only [Builtin.zeroCells, Array.toList_map, List.mem_map] at hu
    obtain ⟨i, _, rfl⟩ := hu
    have hs : zp.cells.size = 7 := rfl
    have h5 : i % zp.cells.size < 7 := by rw [hs]; omega
    generalize i % zp.cells.size = j at h5
    have : j = 0 ∨ j = 1 ∨ j = 2 ∨ j = 3 ∨ j = 4 ∨ j = 5 ∨ j = 6 := by omega
    rcases this with rfl | rfl | rfl | rfl | rfl | rfl | rfl <;> simp [zp, Value.cells]
  · simp [Builtin.zeroCells, zp, Value.cells]

/-- append of m pictures, at the operation. -/
theorem wpList_appP (w : World) {ops : Array Oper} {rest : List Oper} {op : Oper} {a : Act} {Q : Exit → Act → World → Prop} (hg : op.guard = none) (s x : Operand)
    (hop : op.op = .call { callee := .builtin .append, args := #[s, x], argTypes := #[59, 59] }) (hty : op.type = 59) (B : Nat) (v : Value) (k : Nat) (P : Nat → Pic) (hs : a.eval s = v) (h : PL w B v k P) (hB : B ≤ w.heap.size)
    (b o m c : Nat) (R : Nat → Pic) (hx : a.eval x = .slice (some ⟨b, o, none⟩) m c) (hL : LA w (.slice (some ⟨b, o, none⟩) m c) m R) (hm : 0 < m) (h63 : k + m ≤ maxLen) (hfit : ∀ cap, k ≤ cap → cap < k + m → Builtin.nextslicecap (k + m) cap * 112 ≤ 281474976710656)
    (hK : ∀ v' w', PL w' B v' (k + m) (cat k P R) → Grew w w' B → wpList Try.prog ops Q rest (a.put op.dst v') w') : wpList Try.prog ops Q (op :: rest) a w := by
  refine wpList_plain hg fun K hK' => ?_
  obtain ⟨xs, h1, h2⟩ := h
  obtain ⟨ys, hl, y1, y2, y3, y4⟩ := hL.cells
  obtain ⟨v', w', hrun, r1, r2, _, _, _⟩ := append_x w B 59 68 7 112 zp Try.underlying59 info68 zeros68 v k xs h1 hB ⟨b, o, none⟩ m c ys hl y1 y2 y3 hm h63 hfit
  have hlx : xs.length = k * 7 := by
    rcases h1 with ⟨_, rfl, rfl⟩ | ⟨g, cap, cur, _, _, _, _, _, _, _, _, h⟩
    · rfl
    · exact h
  unfold Oper.wp
  simp [execOp, hop, resolve, invoke, builtin, hs, hx, hty, hrun, Result.andThen]
  exact hK' _ _ (hK v' w' ⟨xs ++ ys, r1, (h2.app hlx y4).mono r2.fa⟩ r2)

theorem C7.news {w : World} {b o : Nat} {q : Pic} {ay au av : Option Addr} {cy cu cv : Nat} (h : C7 w b o q (.slice ay q.fr.nY cy) (.slice au q.fr.nU cu) (.slice av q.fr.nV cv)) :
    ∀ j u, (pic7 q ay cy au cu av cv)[j]? = some u → w.cell? ((⟨b, o, none⟩ : Addr).add j) = some u := by
  intro j u hu
  have hadd : (⟨b, o, none⟩ : Addr).add j = ⟨b, o + j, none⟩ := by unfold Addr.add; split <;> simp_all
  rw [hadd]
  have hj : j < 7 := by
    have := (List.getElem?_eq_some_iff.1 hu).1
    simpa [pic7] using this
  match j, hj with
  | 0, _ => simp [pic7] at hu; subst hu; exact h.k0
  | 1, _ => simp [pic7] at hu; subst hu; exact h.k1
  | 2, _ => simp [pic7] at hu; subst hu; exact h.k2
  | 3, _ => simp [pic7] at hu; subst hu; exact h.k3
  | 4, _ => simp [pic7] at hu; subst hu; exact h.k4
  | 5, _ => simp [pic7] at hu; subst hu; exact h.k5
  | 6, _ => simp [pic7] at hu; subst hu; exact h.k6
/-- append of one picture, at the operation. -/
theorem wpList_appP1 (w : World) {ops : Array Oper} {rest : List Oper} {op : Oper} {a : Act} {Q : Exit → Act → World → Prop} (hg : op.guard = none) (s x : Operand)
    (hop : op.op = .call { callee := .builtin .append, args := #[s, x], argTypes := #[59, 59] }) (hty : op.type = 59) (B : Nat) (v : Value) (k : Nat) (xs : List Value) (hs : a.eval s = v) (h : RowX w B 68 7 v k xs) (hB : B ≤ w.heap.size)
    (b o c : Nat) (hx : a.eval x = .slice (some ⟨b, o, none⟩) 1 c) (q : Pic) (ay : Option Addr) (cy : Nat) (au : Option Addr) (cu : Nat) (av : Option Addr) (cv : Nat) (hC : C7 w b o q (.slice ay q.fr.nY cy) (.slice au q.fr.nU cu) (.slice av q.fr.nV cv))
    (h63 : k + 1 ≤ maxLen) (hfit : ∀ cap, k ≤ cap → cap < k + 1 → Builtin.nextslicecap (k + 1) cap * 112 ≤ 281474976710656)
    (hK : ∀ v' w', RowX w' B 68 7 v' (k + 1) (xs ++ pic7 q ay cy au cu av cv) → Grew w w' B →
      (∀ b, b < w.heap.size → (∀ g cap, v = .slice (some ⟨g, 0, none⟩) k cap → b ≠ g) → w'.heap[b]? = w.heap[b]?) → w.heap.size ≤ w'.heap.size → wpList Try.prog ops Q rest (a.put op.dst v') w') : wpList Try.prog ops Q (op :: rest) a w := by
  refine wpList_plain hg fun K hK' => ?_
  obtain ⟨p1, p2⟩ := pic7_plain q ay au av cy cu cv
  obtain ⟨v', w', hrun, r1, r2, _, r3, r4⟩ := append_x w B 59 68 7 112 zp Try.underlying59 info68 zeros68 v k xs h hB ⟨b, o, none⟩ 1 c _ rfl hC.news p2 p1 (by decide) h63 hfit
  unfold Oper.wp
  simp [execOp, hop, resolve, invoke, builtin, hs, hx, hty, hrun, Result.andThen]
  exact hK' _ _ (hK v' w' r1 r2 r3 r4)

end Go.Proofs.Ytnnobdcbmagbaaa

/- The contract of pictures: the frames 0 to 7 of the media m0 to m2. -/
namespace Go.Proofs.Ytnnobdcbmagbaaa
open Go.RowKit
set_option linter.unusedVariables false

def mName (d : Nat) : ByteArray := ⟨#[109, UInt8.ofNat (48 + d)]⟩
def PicOK (i : Nat) (q : Pic) : Prop := q.media = mName (i / 8) ∧ q.num = ((i % 8 : Nat) : Int) ∧ q.fr.ok = true ∧ q.fr.W = 16 ∧ q.fr.H = 16
/-- All addresses in the cells xs lie in the blocks from L on. -/
def High (L : Nat) (xs : List Value) : Prop := ∀ u ∈ xs, ∀ a l c, u = .slice (some a) l c → L ≤ a.block
theorem High.app {L : Nat} {a b : List Value} (h : High L a) (k : High L b) : High L (a ++ b) := fun u hu => by
  rcases List.mem_append.1 hu with hu | hu
  · exact h u hu
  · exact k u hu
/-- A row of bytes from L on stays when one older block changes. -/
theorem BA.only {w w' : World} {v : Value} {n : Nat} {f : Nat → Int} {L p : Nat} (h : BA w v n f) (hv : ∀ a l c, v = .slice (some a) l c → L ≤ a.block) (hp : p < L) (hg : w.grownBy w' (some p)) : BA w' v n f := by
  obtain ⟨ao, c, rfl, hc, H⟩ := h
  refine ⟨ao, c, rfl, hc, fun i hi => ?_⟩
  obtain ⟨⟨b, o, he, hcell⟩, h2⟩ := H i hi
  have hL := hv _ _ _ (by rw [he])
  exact ⟨⟨b, o, he, only_cell hg hcell (by simp at hL; omega)⟩, h2⟩
theorem FA.high {w w' : World} {F : Fr} {ay au av : Option Addr} {cy cu cv L p : Nat} (h : FA w (frV F ay cy au cu av cv) F) (h1 : ∀ a, ay = some a → L ≤ a.block) (h2 : ∀ a, au = some a → L ≤ a.block) (h3 : ∀ a, av = some a → L ≤ a.block) (hp : p < L) (hg : w.grownBy w' (some p)) :
    FA w' (frV F ay cy au cu av cv) F := by
  obtain ⟨y, u, z, e, b1, b2, b3⟩ := h
  simp only [frV, Value.agg.injEq, Array.mk.injEq, List.cons.injEq, and_true, true_and] at e
  obtain ⟨rfl, rfl, rfl⟩ := e
  exact ⟨_, _, _, rfl, b1.only (fun a l c e => h1 a (by simp at e; exact e.1)) hp hg, b2.only (fun a l c e => h2 a (by simp at e; exact e.1)) hp hg, b3.only (fun a l c e => h3 a (by simp at e; exact e.1)) hp hg⟩
theorem Holds.only {w w' : World} {xs : List Value} {k : Nat} {P : Nat → Pic} {L p : Nat} (h : Holds w xs k P) (hx : High L xs) (hp : p < L) (hg : w.grownBy w' (some p)) : Holds w' xs k P := fun i hi => by
  obtain ⟨h1, ay, cy, au, cu, av, cv, h2, h3⟩ := h i hi
  refine ⟨h1, ay, cy, au, cu, av, cv, h2, h3.high (L := L) (fun a e => ?_) (fun a e => ?_) (fun a e => ?_) hp hg⟩
  · exact hx _ (List.mem_of_getElem? ((h2 4 (by decide)).trans rfl)) a _ _ (by rw [e])
  · exact hx _ (List.mem_of_getElem? ((h2 5 (by decide)).trans rfl)) a _ _ (by rw [e])
  · exact hx _ (List.mem_of_getElem? ((h2 6 (by decide)).trans rfl)) a _ _ (by rw [e])
theorem RowX.only {w w' : World} {B k s : Nat} {E : TypeId} {v : Value} {xs : List Value} {p : Nat} (h : RowX w B E s v k xs) (hp : p < B) (hg : w.grownBy w' (some p)) : RowX w' B E s v k xs := by
  rcases h with h | ⟨g, cap, cur, h1, h2, h3, h⟩
  · exact Or.inl h
  · refine Or.inr ⟨g, cap, cur, h1, h2, ?_, h⟩
    rw [hg.block g (Array.getElem?_eq_some_iff.1 h3).1 (by simp; omega)]
    exact h3
/-- The list as far as it has come. -/
structure PS (w : World) (B : Nat) (v : Value) (n : Nat) (xs : List Value) (P : Nat → Pic) : Prop where
  row : RowX w B 68 7 v n xs
  holds : Holds w xs n P
  high : High B xs
  names : ∀ i, i < n → PicOK i (P i)
theorem PS.only {w w' : World} {B n : Nat} {v : Value} {xs : List Value} {P : Nat → Pic} {p : Nat} (h : PS w B v n xs P) (hp : p < B) (hg : w.grownBy w' (some p)) : PS w' B v n xs P :=
  ⟨h.row.only hp hg, h.holds.only h.high hp hg, h.high, h.names⟩
theorem PS.below {w w' : World} {B n : Nat} {v : Value} {xs : List Value} {P : Nat → Pic} (h : PS w B v n xs P) (hb : Below w.heap.size w w') : PS w' B v n xs P :=
  ⟨h.row.below hb, h.holds.mono (fun _ _ hF => hF.below hb), h.high, h.names⟩

def PicsPost (w : World) (B p k : Nat) (e : Ending) (w' : World) : Prop :=
  ∃ v xs P k', e = .returned v ∧ PS w' w.heap.size v 24 xs P ∧ TP w' B p k' ∧ k' ≤ k + 36 ∧ w.grownBy w' (some p)

theorem TP.low {w w' : World} {B p k L : Nat} (h : TP w B p k) (hp : p < L) (hb : Below L w w') : TP w' B p k := by
  obtain ⟨h1, h2, ao, n, c, c0, c1, hf, h3, h4, hx⟩ := h
  refine ⟨h1, Nat.lt_of_lt_of_le h2 hb.size, ao, n, c, (hb.cell (p := ⟨p, 0, none⟩) hp).trans c0, (hb.cell (p := ⟨p, 1, none⟩) hp).trans c1, (hb.frozen (p := ⟨p, 1, none⟩) hp).trans hf, h3, h4, fun i hi => ?_⟩
  obtain ⟨b, o, x, e, hb', hc⟩ := hx i hi
  exact ⟨b, o, x, e, hb', (hb.cell (p := ⟨b, o + i, none⟩) (show b < L by omega)).trans hc⟩
theorem only_low {w a b : World} {p L : Nat} (h : w.grownBy a (some p)) (hb : Below L a b) (hL : w.heap.size ≤ L) : w.grownBy b (some p) :=
  ⟨hb.os.trans h.os, hb.tape.trans h.tape, hb.output.trans h.output, Nat.le_trans h.size hb.size, fun k hk hne => (hb.block k (by omega)).trans (h.block k hk hne)⟩

def rS (n : Nat) : ByteArray := ⟨#[UInt8.ofNat (48 + n)]⟩
theorem rS_name (n : Nat) (h : n < 3) : ({ data := #[109] } : ByteArray) ++ rS n = mName n := by
  rcases (show n = 0 ∨ n = 1 ∨ n = 2 by omega) with rfl | rfl | rfl <;> rfl
theorem rS_fit (n : Nat) (h : n < 3) : (({ data := #[109] } : ByteArray) ++ rS n).size ≤ 9223372036854775807 := by
  rw [rS_name n h]
  have : (mName n).size = 2 := rfl
  omega
theorem wpList_rune (w : World) {ops : Array Oper} {rest : List Oper} {o : Oper} {a : Act} {Q : Exit → Act → World → Prop} (hg : o.guard = none) (x : Operand) (hop : o.op = Op.convert 21 9 x) (n : Nat) (hn : n < 3) (hx : a.eval x = .int .i32 (48 + (n : Int)))
    (hK : wpList Try.prog ops Q rest (a.put o.dst (.string (rS n))) w) : wpList Try.prog ops Q (o :: rest) a w := by
  refine wpList_plain hg fun K hK' => ?_
  unfold Oper.wp execOp
  generalize a.eval = ev at hx ⊢
  rcases (show n = 0 ∨ n = 1 ∨ n = 2 by omega) with rfl | rfl | rfl
  all_goals
    simp [go_sem, hop, hx]
    exact hK' _ _ hK

theorem cap_small {k cap : Nat} (hk : k ≤ 24) (h1 : k ≤ cap) (h2 : cap < k + 1) : Builtin.nextslicecap (k + 1) cap * 112 ≤ 281474976710656 := by
  obtain rfl : cap = k := by omega
  have h : ∀ k, k < 25 → Builtin.nextslicecap (k + 1) k * 112 ≤ 281474976710656 := by decide +kernel
  exact h _ (by omega)
theorem RowX.len {w : World} {B k s : Nat} {E : TypeId} {v : Value} {xs : List Value} (h : RowX w B E s v k xs) : xs.length = k * s := by
  rcases h with ⟨_, rfl, rfl⟩ | ⟨g, cap, cur, _, _, _, _, _, _, _, _, h⟩
  · simp
  · exact h
theorem RowX.typ {w : World} {B k s : Nat} {E : TypeId} {v : Value} {xs : List Value} (h : RowX w B E s v k xs) {g cap : Nat} (e : v = .slice (some ⟨g, 0, none⟩) k cap) : ∃ cur, w.heap[g]? = some (.cells cur E (0, 0)) := by
  rcases h with ⟨rfl, _⟩ | ⟨g', cap', cur, rfl, _, hc, _⟩
  · simp at e
  · simp at e
    obtain ⟨rfl, _⟩ := e
    exact ⟨cur, hc⟩

/-- What the operations that make one picture's frame leave. -/
def GP (B nY : Nat) (W H : Value) (Y : Nat → Int) (u z : Value) (i lo hi : Nat) (v : Value) (w : World) : Prop :=
  (i = 4 → ∃ e, v = .slice (some ⟨e, 0, none⟩) 0 0) ∧
  (i = 7 → ∃ g c, v = .slice (some ⟨g, 0, none⟩) nY c ∧ Row w B g nY c Y ∧ lo ≤ g ∧ g < hi) ∧
  (i = 12 → ∃ g c, v = .agg #[W, H, .slice (some ⟨g, 0, none⟩) nY c, u, z] ∧ Row w B g nY c Y) ∧
  (i = 13 → v = .pointer (some ⟨lo, 0, none⟩) ∧ lo < hi ∧ BX w lo (.int .i64 0) (.int .i64 0) (.slice none 0 0) (.slice none 0 0) (.slice none 0 0) ∧ Fz w lo)
theorem GP.ext {B nY : Nat} {W H : Value} {Y : Nat → Int} {u z : Value} {i lo hi : Nat} {v : Value} {w w' : World} (h : GP B nY W H Y u z i lo hi v w) (e : Plan.Ext w w') : GP B nY W H Y u z i lo hi v w' := by
  obtain ⟨h0, h1, h5, h4⟩ := h
  refine ⟨h0, fun hi => ?_, fun hi => ?_, fun hi => ?_⟩
  · obtain ⟨g, c, rfl, r, q⟩ := h1 hi
    exact ⟨g, c, rfl, r.below e, q⟩
  · obtain ⟨g, c, rfl, r⟩ := h5 hi
    exact ⟨g, c, rfl, r.below e⟩
  · obtain ⟨rfl, q, x, z⟩ := h4 hi
    exact ⟨rfl, q, x.below e, z.below e⟩
set_option maxRecDepth 100000 in
set_option maxHeartbeats 8000000 in
theorem pictures_any (B p kk : Nat) (w : World) (ht : TP w B p kk) (hkk : kk < 800000) : Calls Try.prog 34 #[.pointer (some ⟨p, 0, none⟩), .int .i64 16] w (PicsPost w B p kk) := by
  have HT := Lib.hid ht
  have hpw := ht.2.1
  clear ht
  go_enter Try.func34, Try.ntmps34
  go_wp2_with fail
  go_loopw [6, 5] (fun mm out wr => ∃ (n : Nat) (xs : List Value) (P : Nat → Pic) (k' : Nat), n ≤ 3 ∧ mm = .int .i64 (n : Int) ∧ PS wr w.heap.size out (n * 8) xs P ∧ TP wr B p k' ∧ k' ≤ kk + 12 * n ∧ w.grownBy wr (some p)) (fun mm _ _ => 3 - (intOf mm).toNat)
  case atStart => exact ⟨0, [], fun _ => ⟨ByteArray.empty, 0, Fr.zero⟩, kk, by omega, rfl, ⟨Or.inl ⟨rfl, rfl, rfl⟩, fun i hi => absurd hi (by omega), (fun u hu => by simp at hu), fun i hi => absurd hi (by omega)⟩, HT.out, by omega, ⟨rfl, rfl, rfl, Nat.le_refl _, fun _ _ _ => rfl⟩⟩
  case round =>
    obtain ⟨n, xs, P, k', hn3, rfl, hPS, hTP, hk', hG⟩ := hrel
    have HPS := Lib.hid hPS
    have HTP := Lib.hid hTP
    have HG := Lib.hid hG
    have hsz := hG.size
    clear hPS hTP hG
    by_cases hlt : n < 3
    · have hdec : decide ((n : Int) < 3) = true := by simp; omega
      go_wp2_with fail
      refine (picture_any B p k' 16 _ HTP.out (by omega) (by decide)).mono ?_
      rintro e w2 ⟨v, F, k2, rfl, hO, hFok, hFW, hFH, hTP2, hk2, hg2⟩
      have HPS2 := Lib.hid (HPS.out.only hpw hg2)
      have HG2 := Lib.hid (only_trans HG.out hg2)
      have HT2 := Lib.hid hTP2
      have s2 := hg2.size
      have HFA := Lib.hid hO.FA
      have HF := Lib.hid (And.intro hFok (And.intro hFW hFH))
      obtain ⟨g1, g2, g3, rfl, r1, r2, r3, -⟩ := hO
      have l1 := r1.le
      have l2 := r2.le
      have l3 := r3.le
      clear r1 r2 r3 hg2 hTP2 hFok hFW hFH HPS HG HTP
      go_upto_region 6 with fail
      obtain ⟨w3, hw⟩ : ∃ x, x = w2.alloc (.cells #[.int .i64 F.W, .int .i64 F.H, .slice (some ⟨g1, 0, none⟩) F.nY F.nY, .slice (some ⟨g2, 0, none⟩) F.nU F.nU, .slice (some ⟨g3, 0, none⟩) F.nV F.nV] 26) := ⟨_, rfl⟩
      rw [← hw]
      have hE : Below w2.heap.size w2 w3 := by rw [hw]; exact below_box _ _
      have HBX := Lib.hid (show w3.heap[w2.heap.size]? = some (.cells #[.int .i64 F.W, .int .i64 F.H, .slice (some ⟨g1, 0, none⟩) F.nY F.nY, .slice (some ⟨g2, 0, none⟩) F.nU F.nU, .slice (some ⟨g3, 0, none⟩) F.nV F.nV] 26 (0, 0)) by rw [hw]; exact (MapKept.heap_alloc w2 _).1)
      have HPS3 := Lib.hid (HPS2.out.below hE)
      have HT3 := Lib.hid (HT2.out.below hE)
      have HG3 := Lib.hid (only_low HG2.out hE (by omega))
      have HFA3 := Lib.hid (HFA.out.below hE)
      have s3 := hE.size
      obtain ⟨bf, hbf⟩ : ∃ b, b = w2.heap.size := ⟨_, rfl⟩
      have hbf1 : w.heap.size ≤ bf := by omega
      have hbf2 : bf < w3.heap.size := by have : w3.heap.size = w2.heap.size + 1 := by rw [hw]; simp
                                          omega
      rw [← hbf] at HBX
      try rw [← hbf]
      clear hw hE HPS2 HT2 HG2 HFA hbf
      go_wp2_with fail
      go_loopw [8, 5] (fun nn out wr => ∃ (j : Nat) (xs : List Value) (P : Nat → Pic), j ≤ 8 ∧ nn = .int .i64 (j : Int) ∧ PS wr w.heap.size out (n * 8 + j) xs P ∧ Below w.heap.size w3 wr ∧ Hid (wr.heap[bf]? = some (.cells #[.int .i64 F.W, .int .i64 F.H, .slice (some ⟨g1, 0, none⟩) F.nY F.nY, .slice (some ⟨g2, 0, none⟩) F.nU F.nU, .slice (some ⟨g3, 0, none⟩) F.nV F.nV] 26 (0, 0))) ∧ Hid (FA wr (.agg #[.int .i64 F.W, .int .i64 F.H, .slice (some ⟨g1, 0, none⟩) F.nY F.nY, .slice (some ⟨g2, 0, none⟩) F.nU F.nU, .slice (some ⟨g3, 0, none⟩) F.nV F.nV]) F)) (fun nn _ _ => 8 - (intOf nn).toNat)
      case atStart => exact ⟨0, xs, P, by omega, rfl, HPS3.out, Below.refl _ _, HBX, HFA3⟩
      case round =>
        obtain ⟨j, ys, Q, hj8, rfl, hPS, hB, HX, HFr⟩ := hrel
        have HPSj := Lib.hid hPS
        have HBj := Lib.hid hB
        have sj := hB.size
        clear hPS hB
        by_cases hltj : j < 8
        · have hdecj : decide ((j : Int) < 8) = true := by simp; omega
          obtain ⟨f1, f2, f3, f4, f5⟩ := ok_bd HF.out.1
          have i1 : 0 < F.nY ∧ F.nY ≤ 4096 := by omega
          have i256 : 256 ≤ F.nY := f1
          have iU : 0 < F.nU := by omega
          have iV : 0 < F.nV := by omega
          have b0 : wr.cell? ⟨bf, 0, none⟩ = some (.int .i64 F.W) := by simp [World.cell?, HX.out]
          have b1 : wr.cell? ⟨bf, 1, none⟩ = some (.int .i64 F.H) := by simp [World.cell?, HX.out]
          have b2 : wr.cell? ⟨bf, 2, none⟩ = some (.slice (some ⟨g1, 0, none⟩) F.nY F.nY) := by simp [World.cell?, HX.out]
          have b3 : wr.cell? ⟨bf, 3, none⟩ = some (.slice (some ⟨g2, 0, none⟩) F.nU F.nU) := by simp [World.cell?, HX.out]
          have b4 : wr.cell? ⟨bf, 4, none⟩ = some (.slice (some ⟨g3, 0, none⟩) F.nV F.nV) := by simp [World.cell?, HX.out]
          have hbr : bf < wr.heap.size := block_lt_of_cell b0
          have hYc : ∀ i, i < F.nY → wr.cell? ⟨g1, 0 + i, none⟩ = some (.int .u8 (F.Y i)) := by
            obtain ⟨b, o, e, h⟩ := HFr.out.plane.1 i1.1
            simp only [Option.some.injEq, Addr.mk.injEq, and_true] at e
            obtain ⟨rfl, rfl⟩ := e
            exact h
          have HY := Lib.hid hYc
          clear f1 f2 f3 f4 f5 hYc
          go_upto_region 9 with fail
          obtain ⟨B, hB'⟩ : ∃ B, B = wr.heap.size := ⟨_, rfl⟩
          have HBE := Lib.hid hB'
          clear hB'
          refine Plan.wp_region_fresh2 (fun w' => Below wr.heap.size wr w') 15 (GP B F.nY (.int .i64 F.W) (.int .i64 F.H) F.Y (.slice (some ⟨g2, 0, none⟩) F.nU F.nU) (.slice (some ⟨g3, 0, none⟩) F.nV F.nV)) ([0, 1, 2, 3, 5, 6, 8, 9, 10, 11].map (·, true) ++ []) [(4, 25), (7, 28), (12, 33), (13, 9)] ([14].map (·, false)) 58 (by kernel_rfl) (by kernel_rfl) (by kernel_rfl) (Below.refl _ _).drew ?_ ?_ ?_
          · intro wa wb ha hb
            exact ha.trans (hb.mono ha.size)
          · intro i lo hi v wa wb hG hE
            exact hG.ext hE
          refine' Plan.plan_seg _ [0, 1, 2, 3, 5, 6, 8, 9, 10, 11] [] (by kernel_rfl) (by kernel_rfl) rfl (by exact (Below.refl _ _).drew) (fun wx hS => ?_) ?_
          rotate_left
          · have y0 := (hS.cell (p := ⟨bf, 0, none⟩) hbr).trans b0
            have y1 := (hS.cell (p := ⟨bf, 1, none⟩) hbr).trans b1
            have y2 := (hS.cell (p := ⟨bf, 2, none⟩) hbr).trans b2
            have y3 := (hS.cell (p := ⟨bf, 3, none⟩) hbr).trans b3
            have y4 := (hS.cell (p := ⟨bf, 4, none⟩) hbr).trans b4
            clear hS
            go_light
            iterate 10 (apply Plan.seg_pick; rfl; intro K hK; go_wp)
            exact Plan.seg_nil
          refine Plan.plan_nil (Plan.fresh_at2 rfl ?_ ?_)
          · intro p hp o ho vs wx lo hi hS hE hG hap K hK
            have hB : B ≤ wx.heap.size := by have := hS.size; rw [HBE.out]; exact this
            simp only [List.mem_cons, List.not_mem_nil, or_false] at hp
            clear b0 b1 b2 b3 b4
            rcases hp with rfl | rfl | rfl | rfl
            all_goals obtain rfl := Option.some.inj ho
            · clear hG
              go_wp2
              exact hK _ _ ⟨fun _ => ⟨_, rfl⟩, (fun h => absurd h (by decide)), (fun h => absurd h (by decide)), (fun h => absurd h (by decide))⟩ (by go_grown)
            · obtain ⟨e0, he0⟩ := (hG (4, 25) (by simp) (by decide)).1 (by simp)
              clear hG
              have q1 : F.nY ≤ 1048576 := by omega
              refine wpList_clone2 wx rfl (.tmp 25) (.tmp 27) rfl e0 g1 0 F.nY F.nY F.Y (by simp [Plan.puts, go_sem, he0]) (by simp [Plan.puts, go_sem]) ?_ q1 i1.1 (fun g c' w' hr hE' => wpList_nil (hK _ _ ?_ hE'))
              · intro i hi
                have h := HY.out i hi
                exact (hS.cell (block_lt_of_cell h)).trans h
              · have hlt := hr.le
                exact ⟨(fun h => absurd h (by decide)), fun _ => ⟨g, c', rfl, hr.mono hB, hlt.1, hlt.2.1⟩, by simp, by simp⟩
            · obtain ⟨g4, c4, v1, r1, p1, p1'⟩ := (hG (7, 28) (by simp) (by decide)).2.1 rfl
              simp only at v1
              have hR := Lib.hid r1
              clear hG hap r1 p1 p1'
              clear hS hE
              refine wpList_build5 wx rfl (.tmp 22) (.tmp 24) (.tmp 28) (.tmp 30) (.tmp 32) F.W F.H (some ⟨g4, 0, none⟩) (some ⟨g2, 0, none⟩) (some ⟨g3, 0, none⟩) F.nY F.nU F.nV c4 F.nU F.nV rfl (by simp [Plan.puts, go_sem]) (by simp [Plan.puts, go_sem]) (by simp [Plan.puts, go_sem, v1]) (by simp [Plan.puts, go_sem]) (by simp [Plan.puts, go_sem]) ?_
              exact wpList_nil (hK _ _ ⟨(fun h => absurd h (by decide)), (fun h => absurd h (by decide)), fun _ => ⟨g4, c4, rfl, hR.out⟩, (fun h => absurd h (by decide))⟩ (Plan.Ext.refl wx))
            · clear hG
              go_wp2
              exact hK _ _ ⟨(fun h => absurd h (by decide)), (fun h => absurd h (by decide)), (fun h => absurd h (by decide)), fun _ => ⟨rfl, by simp, BX.of_alloc _ _ _ _ _ _ _, ⟨by simp, fun o => by simp [go_sem]⟩⟩⟩ (by go_grown)
          intro vs lo hi wx hS hE hG hap
          obtain ⟨gy, cy, v3, rr⟩ := (hG (12, 33) (by simp)).1.2.2.1 rfl
          obtain ⟨v4, p4, xt, zt⟩ := (hG (13, 9) (by simp)).1.2.2.2 rfl
          have hq := (hG (13, 9) (by simp)).2.1
          simp only at v3 v4 hq p4
          obtain ⟨bt, hbt⟩ : ∃ b, b = lo 13 := ⟨_, rfl⟩
          rw [← hbt] at v4 xt zt hq
          have d1t : bt ≠ gy := box_row xt rr i1.1
          have hqt : wr.heap.size ≤ bt := hq
          have hgy : wr.heap.size ≤ gy := by have := rr.le.1; rw [HBE.out] at this; exact this
          clear hG hap p4 hq hbt hE
          simp only [Plan.puts, v3, v4]
          clear v3 v4
          have HRX := Lib.hid rr
          have HXT := Lib.hid xt
          have HZT := Lib.hid zt
          have HSX := Lib.hid hS
          clear rr hS b0 b1 b2 b3 b4
          obtain ⟨t0, t1, t2, t3, t4⟩ := xt
          have zf := zt.2
          refine Plan.plan_of_effect rfl (fun K hK => ?_)
          go_wp2_with fail
          refine ⟨HXT.out.put5o _ _ _ _ _ hqt HSX.out.size |> HSX.out.trans, ?_⟩
          refine Plan.plan_done ?_
          clear t0 t1 t2 t3 t4 zf zt
          obtain ⟨x3, hw⟩ : ∃ x, x = (((((wx.setCell ⟨bt, 0, none⟩ (.int .i64 F.W)).setCell ⟨bt, 1, none⟩ (.int .i64 F.H)).setCell ⟨bt, 2, none⟩ (.slice (some ⟨gy, 0, none⟩) F.nY cy)).setCell ⟨bt, 3, none⟩ (.slice (some ⟨g2, 0, none⟩) F.nU F.nU)).setCell ⟨bt, 4, none⟩ (.slice (some ⟨g3, 0, none⟩) F.nV F.nV)) := ⟨_, rfl⟩
          rw [← hw]
          have hE : Below wr.heap.size wr x3 := by rw [hw]; exact HSX.out.trans (HXT.out.put5o _ _ _ _ _ hqt HSX.out.size)
          have BX_t := show BX x3 bt _ _ _ _ _ by rw [hw]; exact HXT.out.put5 _ _ _ _ _
          have RR := Lib.hid (show Row x3 B gy F.nY cy F.Y by rw [hw]; exact HRX.out.put5 d1t _ _ _ _ _)
          have HE := Lib.hid hE
          have nt := BX_t.lt
          clear hw hE HXT HRX HZT HSX
          obtain ⟨t0, t1, t2, t3, t4⟩ := BX_t
          have j0 : j < F.nY := by omega
          have rj := RR.out.cell j j0
          have fj := World.ownsRow.frozenAt RR.out j
          go_upto_region 11 with fail
          obtain ⟨x4, hw4⟩ : ∃ x, x = x3.setCell ⟨gy, j, none⟩ (.int .u8 ((j : Int) * 31)) := ⟨_, rfl⟩
          rw [← hw4]
          have R4 := Lib.hid (show Row x4 B gy F.nY cy (fun i => if i = j then (j : Int) * 31 else F.Y i) by rw [hw4]; exact RR.out.store j (by simp) (fun i _ hij => by simp [hij]))
          have far4 : ∀ q : Nat, x4.cell? ⟨bt, q, none⟩ = x3.cell? ⟨bt, q, none⟩ := fun q => by rw [hw4]; exact World.cell?_setCell_far _ _ _ _ (by simp; omega)
          have HE4 := Lib.hid (show Below wr.heap.size wr x4 by rw [hw4]; exact HE.out.setCell (by simp; omega) _)
          replace t0 := (far4 0).trans t0
          replace t1 := (far4 1).trans t1
          replace t2 := (far4 2).trans t2
          replace t3 := (far4 3).trans t3
          replace t4 := (far4 4).trans t4
          have r5 := R4.out.cell 5 (by omega)
          have f5 := World.ownsRow.frozenAt R4.out 5
          obtain ⟨y5, hy5⟩ : ∃ y : Int, y = (if 5 = j then (j : Int) * 31 else F.Y 5) := ⟨_, rfl⟩
          rw [← hy5] at r5
          clear hw4 far4 rj fj RR HE hy5
          go_upto_region 12 with fail
          obtain ⟨x5, hw5⟩ : ∃ x, x = x4.setCell ⟨gy, 5, none⟩ (.int .u8 (n : Int)) := ⟨_, rfl⟩
          rw [← hw5]
          have R5 := Lib.hid (show Row x5 B gy F.nY cy (fun i => if i = 5 then (n : Int) else if i = j then (j : Int) * 31 else F.Y i) by rw [hw5]; exact R4.out.store 5 (by simp) (fun i _ hij => by simp [hij]))
          have far5 : ∀ q : Nat, x5.cell? ⟨bt, q, none⟩ = x4.cell? ⟨bt, q, none⟩ := fun q => by rw [hw5]; exact World.cell?_setCell_far _ _ _ _ (by simp; omega)
          have HE5 := Lib.hid (show Below wr.heap.size wr x5 by rw [hw5]; exact HE4.out.setCell (by simp; omega) _)
          replace t0 := (far5 0).trans t0
          replace t1 := (far5 1).trans t1
          replace t2 := (far5 2).trans t2
          replace t3 := (far5 3).trans t3
          replace t4 := (far5 4).trans t4
          clear hw5 far5 r5 f5 R4 HE4
          obtain ⟨Y5, hY5⟩ : ∃ Y : Nat → Int, Y = (fun i => if i = 5 then (n : Int) else if i = j then (j : Int) * 31 else F.Y i) := ⟨_, rfl⟩
          have HY5 := Lib.hid (show ∀ i, i < F.nY → 0 ≤ Y5 i ∧ Y5 i < 256 by
            intro i hi
            rw [hY5]
            have := HFr.out.bd1 i hi
            by_cases e : i = 5
            · simp [e]; omega
            · by_cases e' : i = j
              · simp [e, e']; omega
              · simp [e, e']; omega)
          rw [← hY5] at R5
          clear hY5
          have HFu := Lib.hid (HFr.out.below HE5.out)
          have HGA := Lib.hid (show FA x5 (.agg #[.int .i64 F.W, .int .i64 F.H, .slice (some ⟨gy, 0, none⟩) F.nY cy, .slice (some ⟨g2, 0, none⟩) F.nU F.nU, .slice (some ⟨g3, 0, none⟩) F.nV F.nV]) ⟨F.W, F.H, F.nY, F.nU, F.nV, Y5, F.U, F.V⟩ by
            obtain ⟨y, u, z, e, h1, h2, h3⟩ := HFu.out
            simp only [Value.agg.injEq, Array.mk.injEq, List.cons.injEq, and_true, true_and] at e
            obtain ⟨rfl, rfl, rfl⟩ := e
            exact ⟨_, _, _, rfl, R5.out.BA HY5.out, h2, h3⟩)
          have s5 := HE5.out.size
          go_wp2_with (first | (refine wpList_rune _ rfl (.tmp 49) rfl n hlt rfl ?_) | (at_builtin; refine wpList_appP1 _ rfl _ _ rfl rfl w.heap.size _ (n * 8 + j) ys rfl ((HPSj.out.row.below HE5.out).below (below_box _ _)) (by simp; omega) _ _ _ rfl ⟨({ data := #[109] } : ByteArray) ++ rS n, (j : Int), ⟨F.W, F.H, F.nY, F.nU, F.nV, Y5, F.U, F.V⟩⟩ (some ⟨gy, 0, none⟩) cy (some ⟨g2, 0, none⟩) F.nU (some ⟨g3, 0, none⟩) F.nV (by constructor <;> simp [go_sem]) (by unfold maxLen; omega) (fun cap h1 h2 => cap_small (by omega) h1 h2) ?_; intro v' w6 hRow hGrew hSame hSize))
          go_round
          case rel =>
            refine ⟨j + 1, _, cat (n * 8 + j) Q (fun _ => ⟨({ data := #[109] } : ByteArray) ++ rS n, (j : Int), ⟨F.W, F.H, F.nY, F.nU, F.nV, Y5, F.U, F.V⟩⟩), by omega, by go_num, ⟨hRow, ?_, ?_, ?_⟩, ?_, Lib.hid ?_, Lib.hid (hGrew.fa _ _ (HFu.out.below (below_box _ _)))⟩
            · refine Holds.app (m := 1) ((HPSj.out.holds.mono (fun v G hG => (hG.below HE5.out).below (below_box _ _))).mono hGrew.fa) HPSj.out.row.len (fun i hi => ?_)
              obtain rfl : i = 0 := by omega
              exact ⟨⟨rS_fit n hlt, by show -9223372036854775808 ≤ (j : Int); omega, by show (j : Int) ≤ 9223372036854775807; omega⟩, _, _, _, _, _, _, fun j hj => by simp, hGrew.fa _ _ (HGA.out.below (below_box _ _))⟩
            · refine HPSj.out.high.app (fun u hu a l c e => ?_)
              subst e
              simp [pic7] at hu
              rcases hu with ⟨rfl, _⟩ | ⟨rfl, _⟩ | ⟨rfl, _⟩ <;> first | (change w.heap.size ≤ gy; omega) | (change w.heap.size ≤ g2; omega) | (change w.heap.size ≤ g3; omega)
            · intro i hi
              by_cases hi2 : i < n * 8 + j
              · simp only [cat, hi2, if_true]
                exact HPSj.out.names i hi2
              · obtain rfl : i = n * 8 + j := by omega
                simp only [cat, hi2, if_false]
                refine ⟨?_, ?_, HF.out.1, HF.out.2.1, HF.out.2.2⟩
                · show ({ data := #[109] } : ByteArray) ++ rS n = mName ((n * 8 + j) / 8)
                  rw [show (n * 8 + j) / 8 = n by omega]
                  exact rS_name n hlt
                · show (j : Int) = (((n * 8 + j) % 8 : Nat) : Int)
                  omega
            · exact HBj.out.trans (((HE5.out.mono (by omega)).alloc (by omega) _).trans hGrew.below)
            · rw [hSame bf (by simp; omega) (fun g cap e => ?_)]
              · rw [Below.heap_alloc _ _ _ (by omega), HE5.out.block bf hbr]
                exact HX.out
              · have := HPSj.out.row.typ e
                obtain ⟨cur, hc⟩ := this
                rintro rfl
                rw [HX.out] at hc
                simp at hc
          case measure => simp [intOf]; omega

        · obtain rfl : j = 8 := by omega
          go_wp2_with fail
          go_round
          case rel =>
            refine ⟨n + 1, ys, Q, k2, by omega, by go_num, ?_, HT3.out.low hpw HBj.out, by omega, only_low HG3.out HBj.out (Nat.le_refl _)⟩
            rw [show (n + 1) * 8 = n * 8 + 8 by omega]
            exact HPSj.out
          case measure => simp [intOf]; omega
    · obtain rfl : n = 3 := by omega
      go_wp2_with fail
      go_ret
      exact ⟨_, xs, P, k', rfl, HPS.out, HTP.out, by omega, HG.out⟩

end Go.Proofs.Ytnnobdcbmagbaaa

/- Regions in which two operations with an effect may come up in either order: a plan that forks. -/
namespace Go.Plan
open Go

/-- A plan that may fork. -/
inductive PT where
  | leaf
  | run (l : List (Nat × Bool)) (r : PT)
  | fork (i : Nat) (r : PT) (j : Nat) (s : PT)
  | dyn (r : PT)

def PT.cnt : PT → Nat
  | leaf => 0
  | run l r => r.cnt + l.length
  | fork _ r _ _ => r.cnt + 1
  | dyn r => r.cnt

def treeGo (ops : Array Oper) (z : Nat) : Array Bool → PT → Bool
  | listed, .leaf => (Region.ready .any ops listed).isEmpty
  | listed, .run l r => match planGo ops z listed l with
    | some l' => treeGo ops z l' r && decide (l'.size = ops.size)
    | none => false
  | listed, .fork i r j s => Region.ready .any ops listed == [i, j] && decide (r.cnt = s.cnt) && decide (listed.size = ops.size) && treeGo ops z (listed.setIfInBounds i true) r && treeGo ops z (listed.setIfInBounds j true) s
  | listed, .dyn r => treeGo ops z listed r

section
variable {P : Program} {ops : Array Oper} {Q : Exit → Act → World → Prop} {S : World → Prop} {z : Nat}

def wpTree (P : Program) (ops : Array Oper) (Q : Exit → Act → World → Prop) : PT → (World → Prop) → Act → World → Prop
  | .leaf, _, a, w => Q .normal a w
  | .run l r, S, a, w => wpPlan P ops Q S ops.size (wpTree P ops Q r S) l a w
  | .fork i r j s, S, a, w => wpOp P ops Q i (fun a' w' => S w' ∧ wpTree P ops Q r S a' w') a w ∧ wpOp P ops Q j (fun a' w' => S w' ∧ wpTree P ops Q s S a' w') a w
  | .dyn r, S, a, w => ∃ S2 : World → Prop, (∀ w, S2 w → S w) ∧ S2 w ∧ wpTree P ops Q r S2 a w

theorem anyS_weak {S S2 : World → Prop} (h : ∀ w, S2 w → S w) : ∀ (fuel : Nat) (listed : Array Bool) (a : Act) (w : World), anyS P ops Q S2 z fuel listed a w → anyS P ops Q S z fuel listed a w
  | 0, _, _, _, h' => h'
  | fuel + 1, _, _, _, h' => ⟨h'.1, fun i hi => wpOp_mono (fun a' w' hx => ⟨fun hz => h _ (hx.1 hz), anyS_weak h fuel _ a' w' hx.2⟩) (h'.2 i hi)⟩

theorem held_of_tree (hs : Region.noSelect ops = true) (hQ : ∀ c a d v w, Q (.panic c) (a.put d v) w → Q (.panic c) a w) :
    ∀ (t : PT) (S : World → Prop) (listed : Array Bool) (a : Act) (w : World), treeGo ops ops.size listed t = true → listed.size = ops.size → S w → wpTree P ops Q t S a w → anyS P ops Q S ops.size t.cnt listed a w
  | .leaf, S, listed, a, w, hg, _, hS, h => anyS_done (by simpa [treeGo] using hg) h 0
  | .run l r, S, listed, a, w, hg, hl, hS, h => by
    simp only [treeGo] at hg
    split at hg
    · rename_i l' hl'
      simp only [Bool.and_eq_true, decide_eq_true_eq] at hg
      refine held_of_plan hs (lastOK_none ops) hQ l' r.cnt (fun a w hSw hC => held_of_tree hs hQ r S l' a w hg.1 hg.2 (hSw ?_) hC) l listed a w hl' hl (fun _ => hS) h
      have e : l'.getD ops.size false = false := by
        rw [Array.getD_eq_getD_getElem?, Array.getElem?_eq_none (by omega)]
        rfl
      rw [e]; simp
    · cases hg
  | .fork i r j s, S, listed, a, w, hg, hl, hS, h => by
    simp only [treeGo, Bool.and_eq_true, beq_iff_eq, decide_eq_true_eq] at hg
    obtain ⟨⟨⟨⟨hr, hc⟩, _⟩, h1⟩, h2⟩ := hg
    refine ⟨fun h0 => by rw [hr] at h0; simp at h0, fun k hk => ?_⟩
    rw [hr] at hk
    simp only [List.mem_cons, List.not_mem_nil, or_false] at hk
    rcases hk with rfl | rfl
    · exact wpOp_mono (fun a' w' h' => ⟨fun _ => h'.1, held_of_tree hs hQ r S _ a' w' h1 (by simp [hl]) h'.1 h'.2⟩) h.1
    · refine wpOp_mono (fun a' w' h' => ⟨fun _ => h'.1, ?_⟩) h.2
      rw [show r.cnt = s.cnt from hc]
      exact held_of_tree hs hQ s S _ a' w' h2 (by simp [hl]) h'.1 h'.2
  | .dyn r, S, listed, a, w, hg, hl, hS, h => by
    obtain ⟨S2, h1, h2, h3⟩ := h
    exact anyS_weak h1 _ _ _ _ (held_of_tree hs hQ r S2 listed a w hg hl h2 h3)

theorem wp_region_tree {id : Nat} {l : List Oper} {a : Act} {w : World} (S : World → Prop) (t : PT) (hm : P.follows .mixedOrders = true)
    (hs : Region.noSelect l.toArray = true) (hp : (treeGo l.toArray l.toArray.size (Array.replicate l.toArray.size false) t && decide (t.cnt = l.toArray.size)) = true)
    (hS : S w.drew) (h : wpTree P l.toArray (NoPanic Q) t S a w.drew) : (Code.region id l.toArray true).wp P Q a w := by
  simp only [Bool.and_eq_true, decide_eq_true_eq] at hp
  refine wp_region_noPanic (wp_region_any hm (any_of_anyS (S := S) (z := l.toArray.size) _ _ _ _ ?_))
  have := held_of_tree (P := P) (Q := NoPanic Q) hs (fun c a d v w h => h.elim) t S _ a w.drew hp.1 (by simp) hS h
  rw [hp.2] at this
  exact this

/-- An operation of a fork, walked as ever. -/
theorem op_of_list {i : Nat} {o : Oper} {T : Act → World → Prop} {a : Act} {w : World} (ho : ops[i]? = some o)
    (h : ∀ K : Act → World → Prop, (∀ a' w', S w' ∧ T a' w' → K a' w') → wpList P ops (Exit.then K Q) [o] a w) : wpOp P ops Q i (fun a' w' => S w' ∧ T a' w') a w := by
  have := plan_of_effect (P := P) (Q := Q) (S := fun _ => True) (z := ops.size) (C := fun a' w' => S w' ∧ T a' w') (rest := []) (i := i) ho
    (fun K hK => h K fun a' w' h' => hK a' w' ⟨trivial, h'⟩)
  exact wpOp_mono (fun a' w' h' => h'.2) this
theorem tree_leaf {a : Act} {w : World} (h : Q .normal a w) : wpTree P ops (NoPanic Q) .leaf S a w := h
theorem tree_run {l : List (Nat × Bool)} {r : PT} {a : Act} {w : World} (h : wpPlan P ops Q S ops.size (wpTree P ops Q r S) l a w) : wpTree P ops Q (.run l r) S a w := h
theorem tree_dyn {r : PT} {a : Act} {w : World} (S2 : World → Prop) (h1 : ∀ w, S2 w → S w) (h2 : S2 w) (h : wpTree P ops Q r S2 a w) : wpTree P ops Q (.dyn r) S a w := ⟨S2, h1, h2, h⟩
theorem tree_fork {i j : Nat} {r s : PT} {a : Act} {w : World} (h1 : wpOp P ops Q i (fun a' w' => S w' ∧ wpTree P ops Q r S a' w') a w) (h2 : wpOp P ops Q j (fun a' w' => S w' ∧ wpTree P ops Q s S a' w') a w) : wpTree P ops Q (.fork i r j s) S a w := ⟨h1, h2⟩
end
end Go.Plan

/- Expressions drawn from the tape: aid. -/
namespace Go.Proofs.Ytnnobdcbmagbaaa
open Go.RowKit
set_option linter.unusedVariables false

/-- An expression whose lists of arguments lie in the blocks from L on. -/
inductive XL (w : World) (L : Nat) : Value → Ex → Prop where
  | mk (f : Fld) (a : Nat → Ex) (ao : Option Addr) (c : Nat) (g : Nat → Value) (hf : f.fit) (hc : f.n ≤ c)
      (hcell : ∀ i, i < f.n → ∃ b o, ao = some ⟨b, o, none⟩ ∧ L ≤ b ∧ ∀ j, j < 8 → w.cell? ⟨b, o + i * 8 + j, none⟩ = cells8 (a i).f (g i) j)
      (hsub : ∀ i, i < f.n → XL w L ((a i).f.val (g i)) (a i)) :
      XL w L (f.val (.slice ao f.n c)) (.mk f a)
theorem XL.XA {w : World} {L : Nat} {v : Value} {e : Ex} (h : XL w L v e) : XA w v e := by
  induction h with
  | mk f a ao c g hf hc hcell hsub ih =>
    refine .mk f a ao c g hf hc (fun i hi => ?_) ih
    obtain ⟨b, o, e, _, h⟩ := hcell i hi
    exact ⟨b, o, e, h⟩
theorem XL.mono {w : World} {L L' : Nat} {v : Value} {e : Ex} (h : XL w L v e) (hl : L' ≤ L) : XL w L' v e := by
  induction h with
  | mk f a ao c g hf hc hcell hsub ih =>
    refine .mk f a ao c g hf hc (fun i hi => ?_) ih
    obtain ⟨b, o, e, hb, h⟩ := hcell i hi
    exact ⟨b, o, e, by omega, h⟩
theorem XL.only {w w' : World} {L p : Nat} {v : Value} {e : Ex} (h : XL w L v e) (hp : p < L) (hg : w.grownBy w' (some p)) : XL w' L v e := by
  induction h with
  | mk f a ao c g hf hc hcell hsub ih =>
    refine .mk f a ao c g hf hc (fun i hi => ?_) ih
    obtain ⟨b, o, e, hb, h⟩ := hcell i hi
    refine ⟨b, o, e, hb, fun j hj => ?_⟩
    obtain ⟨u, hu⟩ := cells8_some (a i).f (g i) hj
    rw [hu]
    exact only_cell hg ((h j hj).trans hu) (by omega)
theorem XL.bel {w w' : World} {L : Nat} {v : Value} {e : Ex} (h : XL w L v e) (hb : Below w.heap.size w w') : XL w' L v e := by
  induction h with
  | mk f a ao c g hf hc hcell hsub ih =>
    refine .mk f a ao c g hf hc (fun i hi => ?_) ih
    obtain ⟨b, o, e, hl, h⟩ := hcell i hi
    exact ⟨b, o, e, hl, ((C8.of h).below hb).to⟩
theorem XL.open {w : World} {L : Nat} {v : Value} {e : Ex} (h : XL w L v e) : ∃ ao c, v = e.f.val (.slice ao e.f.n c) := by
  cases h with
  | mk f a ao c g hf hc hcell hsub => exact ⟨ao, c, rfl⟩

/-- All sources name frames 0 to 7 of the media m0 to m2. -/
def GoodX : Ex → Prop
  | .nil => False
  | .mk f a => (f.op = 1 → ∃ d n : Nat, d < 3 ∧ n < 8 ∧ f.media = mName d ∧ f.frame = (n : Int)) ∧ ∀ i, i < f.n → GoodX (a i)

def cost : Nat → Nat
  | 0 => 4
  | d + 1 => 5 + 2 * cost d
def ExprPost (w : World) (B p k c : Nat) (e : Ending) (w' : World) : Prop :=
  ∃ v X k', e = .returned v ∧ XL w' w.heap.size v X ∧ okX X = true ∧ GoodX X ∧ TP w' B p k' ∧ k' ≤ k + c ∧ w.grownBy w' (some p)

/-- The result's block, still zero. -/
structure Z8 (w : World) (b : Nat) : Prop where
  k0 : w.cell? ⟨b, 0, none⟩ = some (.int .i64 0)
  k1 : w.cell? ⟨b, 1, none⟩ = some (.string (⟨#[]⟩ : ByteArray))
  k2 : w.cell? ⟨b, 2, none⟩ = some (.int .i64 0)
  k3 : w.cell? ⟨b, 3, none⟩ = some (.int .i64 0)
  k4 : w.cell? ⟨b, 4, none⟩ = some (.int .i64 0)
  k5 : w.cell? ⟨b, 5, none⟩ = some (.int .i64 0)
  k6 : w.cell? ⟨b, 6, none⟩ = some (.string (⟨#[]⟩ : ByteArray))
  k7 : w.cell? ⟨b, 7, none⟩ = some (.slice none 0 0)
  zf : ∀ o, w.frozen? ⟨b, o, none⟩ = false
theorem Z8.lt {w : World} {b : Nat} (h : Z8 w b) : b < w.heap.size := block_lt_of_cell h.k0
theorem Z8.only {w w' : World} {b p : Nat} (h : Z8 w b) (hp : p < b) (hg : w.grownBy w' (some p)) : Z8 w' b :=
  ⟨only_cell hg h.k0 (by omega), only_cell hg h.k1 (by omega), only_cell hg h.k2 (by omega), only_cell hg h.k3 (by omega), only_cell hg h.k4 (by omega), only_cell hg h.k5 (by omega), only_cell hg h.k6 (by omega), only_cell hg h.k7 (by omega), fun o => only_frozen hg h.lt (h.zf o) (by omega)⟩
theorem Z8.below {w w' : World} {b : Nat} (h : Z8 w b) (hb : Below w.heap.size w w') : Z8 w' b :=
  ⟨(hb.cell h.lt).trans h.k0, (hb.cell h.lt).trans h.k1, (hb.cell h.lt).trans h.k2, (hb.cell h.lt).trans h.k3, (hb.cell h.lt).trans h.k4, (hb.cell h.lt).trans h.k5, (hb.cell h.lt).trans h.k6, (hb.cell h.lt).trans h.k7, fun o => (hb.frozen h.lt).trans (h.zf o)⟩
def put8 (w : World) (b : Nat) (c0 c1 c2 c3 c4 c5 c6 c7 : Value) : World := (((((((w.setCell ⟨b, 0, none⟩ c0).setCell ⟨b, 1, none⟩ c1).setCell ⟨b, 2, none⟩ c2).setCell ⟨b, 3, none⟩ c3).setCell ⟨b, 4, none⟩ c4).setCell ⟨b, 5, none⟩ c5).setCell ⟨b, 6, none⟩ c6).setCell ⟨b, 7, none⟩ c7
theorem Z8.put {w : World} {b : Nat} (h : Z8 w b) (f : Fld) (s : Value) : B8 (put8 w b (.int .i64 f.op) (.string f.media) (.int .i64 f.frame) (.int .i64 f.num) (.int .i64 f.den) (.int .i64 f.par) (.string f.text) s) b f s := by
  obtain ⟨h0, h1, h2, h3, h4, h5, h6, h7, _⟩ := h
  unfold put8
  constructor
  · simp [go_sem, h0]
  · simp [go_sem, h1]
  · simp [go_sem, h2]
  · simp [go_sem, h3]
  · simp [go_sem, h4]
  · simp [go_sem, h5]
  · simp [go_sem, h6]
  · simp [go_sem, h7]
theorem put8_below (w : World) {b L : Nat} (c0 c1 c2 c3 c4 c5 c6 c7 : Value) (hL : L ≤ b) : Below L w (put8 w b c0 c1 c2 c3 c4 c5 c6 c7) := by
  unfold put8
  refine Below.setCell (Below.setCell (Below.setCell (Below.setCell (Below.setCell (Below.setCell (Below.setCell (Below.setCell (Below.refl _ _) ?_ _) ?_ _) ?_ _) ?_ _) ?_ _) ?_ _) ?_ _) ?_ _ <;> simpa using hL
theorem TP.put8 {w : World} {B p k b : Nat} (h : TP w B p k) (h1 : b ≠ p) (h2 : B ≤ b) (c0 c1 c2 c3 c4 c5 c6 c7 : Value) : TP (Proofs.Ytnnobdcbmagbaaa.put8 w b c0 c1 c2 c3 c4 c5 c6 c7) B p k :=
  (((((((h.far h1 h2 _).far h1 h2 _).far h1 h2 _).far h1 h2 _).far h1 h2 _).far h1 h2 _).far h1 h2 _).far h1 h2 _
theorem XL.cells {w w' : World} {L : Nat} {v : Value} {e : Ex} (h : XL w L v e) (hs : ∀ q : Addr, q.block < w.heap.size → L ≤ q.block → w'.cell? q = w.cell? q) : XL w' L v e := by
  induction h with
  | mk f a ao c g hf hc hcell hsub ih =>
    refine .mk f a ao c g hf hc (fun i hi => ?_) ih
    obtain ⟨b, o, e, hl, h⟩ := hcell i hi
    refine ⟨b, o, e, hl, fun j hj => ?_⟩
    obtain ⟨u, hu⟩ := cells8_some (a i).f (g i) hj
    rw [hu]
    have hc := (h j hj).trans hu
    exact (hs _ (block_lt_of_cell hc) hl).trans hc
theorem put8_cell (w : World) {b : Nat} (c0 c1 c2 c3 c4 c5 c6 c7 : Value) {q : Addr} (h : q.block ≠ b) : (put8 w b c0 c1 c2 c3 c4 c5 c6 c7).cell? q = w.cell? q := by
  unfold put8
  iterate 8 rw [World.cell?_setCell_far _ _ _ _ (fun e => h e.symm)]
theorem load_x {w : World} {b : Nat} {f : Fld} {ao : Option Addr} {n c : Nat} (h : B8 w b f (.slice ao n c)) : (loadVar 58 ⟨b, 0, none⟩).run Try.prog w = .ok (f.val (.slice ao n c)) w := by
  obtain ⟨h0, h1, h2, h3, h4, h5, h6, h7⟩ := h
  simp [go_sem, h0, h1, h2, h3, h4, h5, h6, h7, Fld.val]

theorem C8.put8 {w : World} {g p : Nat} {f : Fld} {s : Value} (h : C8 w g p f s) {b : Nat} (hn : g ≠ b) (c0 c1 c2 c3 c4 c5 c6 c7 : Value) : C8 (Proofs.Ytnnobdcbmagbaaa.put8 w b c0 c1 c2 c3 c4 c5 c6 c7) g p f s := by
  obtain ⟨h0, h1, h2, h3, h4, h5, h6, h7⟩ := h
  constructor
  · rw [put8_cell _ _ _ _ _ _ _ _ _ (by simpa using hn)]; exact h0
  · rw [put8_cell _ _ _ _ _ _ _ _ _ (by simpa using hn)]; exact h1
  · rw [put8_cell _ _ _ _ _ _ _ _ _ (by simpa using hn)]; exact h2
  · rw [put8_cell _ _ _ _ _ _ _ _ _ (by simpa using hn)]; exact h3
  · rw [put8_cell _ _ _ _ _ _ _ _ _ (by simpa using hn)]; exact h4
  · rw [put8_cell _ _ _ _ _ _ _ _ _ (by simpa using hn)]; exact h5
  · rw [put8_cell _ _ _ _ _ _ _ _ _ (by simpa using hn)]; exact h6
  · rw [put8_cell _ _ _ _ _ _ _ _ _ (by simpa using hn)]; exact h7
theorem XL.put8 {w : World} {L b : Nat} {v : Value} {e : Ex} (h : XL w L v e) (hb : b < L) (c0 c1 c2 c3 c4 c5 c6 c7 : Value) : XL (Proofs.Ytnnobdcbmagbaaa.put8 w b c0 c1 c2 c3 c4 c5 c6 c7) L v e :=
  h.cells fun q _ hl => put8_cell w _ _ _ _ _ _ _ _ (by omega)
def pair2 (A B : Ex) (i : Nat) : Ex := if i = 0 then A else B
theorem node2 {w : World} {L ga c : Nat} {f : Fld} {A B : Ex} {sa sb : Value} (h0 : C8 w ga 0 A.f sa) (h1 : C8 w ga 8 B.f sb) (ha : XL w L (A.f.val sa) A) (hb : XL w L (B.f.val sb) B) (hL : L ≤ ga) (hf : f.fit) (hn : f.n = 2) (hc : 2 ≤ c) :
    XL w L (f.val (.slice (some ⟨ga, 0, none⟩) 2 c)) (.mk f (pair2 A B)) := by
  have := XL.mk (w := w) (L := L) f (pair2 A B) (some ⟨ga, 0, none⟩) c (fun i => if i = 0 then sa else sb) hf (by omega) (fun i hi => ?_) (fun i hi => ?_)
  · rw [hn] at this; exact this
  · rcases (show i = 0 ∨ i = 1 by omega) with rfl | rfl
    · exact ⟨ga, 0, rfl, hL, fun j hj => by have := h0.to j hj; simpa [pair2] using this⟩
    · exact ⟨ga, 0, rfl, hL, fun j hj => by have := h1.to j hj; simpa [pair2] using this⟩
  · rcases (show i = 0 ∨ i = 1 by omega) with rfl | rfl
    · exact ha
    · exact hb
theorem node1 {w : World} {L ga c : Nat} {f : Fld} {A : Ex} {sa : Value} (h0 : C8 w ga 0 A.f sa) (ha : XL w L (A.f.val sa) A) (hL : L ≤ ga) (hf : f.fit) (hn : f.n = 1) (hc : 1 ≤ c) :
    XL w L (f.val (.slice (some ⟨ga, 0, none⟩) 1 c)) (.mk f (fun _ => A)) := by
  have := XL.mk (w := w) (L := L) f (fun _ => A) (some ⟨ga, 0, none⟩) c (fun _ => sa) hf (by omega) (fun i hi => ?_) (fun i hi => ha)
  · rw [hn] at this; exact this
  · obtain rfl : i = 0 := by omega
    exact ⟨ga, 0, rfl, hL, fun j hj => by have := h0.to j hj; simpa using this⟩
theorem ok_node2 {f : Fld} {A B : Ex} (hf : okFld f = true) (hn : f.n = 2) (ha : okX A = true) (hb : okX B = true) : okX (.mk f (pair2 A B)) = true := by
  refine okX_yes hf (fun i hi => ?_)
  unfold pair2
  split
  · exact ha
  · exact hb
theorem good_node2 {f : Fld} {A B : Ex} (hf : f.op ≠ 1) (ha : GoodX A) (hb : GoodX B) : GoodX (.mk f (pair2 A B)) := by
  refine ⟨fun h => absurd h hf, fun i hi => ?_⟩
  unfold pair2
  split
  · exact ha
  · exact hb

theorem B8.set0 {w : World} {b : Nat} {f : Fld} {s : Value} (h : B8 w b f s) (o : Int) : B8 (w.setCell ⟨b, 0, none⟩ (.int .i64 o)) b { f with op := o } s := by
  obtain ⟨h0, h1, h2, h3, h4, h5, h6, h7⟩ := h
  constructor <;> simp [go_sem, h0, h1, h2, h3, h4, h5, h6, h7]
theorem B8.set3 {w : World} {b : Nat} {f : Fld} {s : Value} (h : B8 w b f s) (o : Int) : B8 (w.setCell ⟨b, 3, none⟩ (.int .i64 o)) b { f with num := o } s := by
  obtain ⟨h0, h1, h2, h3, h4, h5, h6, h7⟩ := h
  constructor <;> simp [go_sem, h0, h1, h2, h3, h4, h5, h6, h7]
theorem B8.set5 {w : World} {b : Nat} {f : Fld} {s : Value} (h : B8 w b f s) (o : Int) : B8 (w.setCell ⟨b, 5, none⟩ (.int .i64 o)) b { f with par := o } s := by
  obtain ⟨h0, h1, h2, h3, h4, h5, h6, h7⟩ := h
  constructor <;> simp [go_sem, h0, h1, h2, h3, h4, h5, h6, h7]
theorem B8.set7 {w : World} {b : Nat} {f : Fld} {s : Value} (h : B8 w b f s) (n : Nat) (t : Value) : B8 (w.setCell ⟨b, 7, none⟩ t) b { f with n := n } t := by
  obtain ⟨h0, h1, h2, h3, h4, h5, h6, h7⟩ := h
  constructor <;> simp [go_sem, h0, h1, h2, h3, h4, h5, h6, h7]
theorem B8.far {w : World} {b : Nat} {f : Fld} {s : Value} (h : B8 w b f s) {a : Addr} (hn : a.block ≠ b) (u : Value) : B8 (w.setCell a u) b f s := by
  obtain ⟨h0, h1, h2, h3, h4, h5, h6, h7⟩ := h
  constructor <;> (rw [World.cell?_setCell_far _ _ _ _ (by simpa using hn)]; assumption)
theorem B8.only {w w' : World} {b p : Nat} {f : Fld} {s : Value} (h : B8 w b f s) (hn : b ≠ p) (hg : w.grownBy w' (some p)) : B8 w' b f s :=
  ⟨only_cell hg h.k0 hn, only_cell hg h.k1 hn, only_cell hg h.k2 hn, only_cell hg h.k3 hn, only_cell hg h.k4 hn, only_cell hg h.k5 hn, only_cell hg h.k6 hn, only_cell hg h.k7 hn⟩
theorem C8.only {w w' : World} {b o p : Nat} {f : Fld} {s : Value} (h : C8 w b o f s) (hn : b ≠ p) (hg : w.grownBy w' (some p)) : C8 w' b o f s :=
  ⟨only_cell hg h.k0 hn, only_cell hg h.k1 hn, only_cell hg h.k2 hn, only_cell hg h.k3 hn, only_cell hg h.k4 hn, only_cell hg h.k5 hn, only_cell hg h.k6 hn, only_cell hg h.k7 hn⟩
theorem C8.far {w : World} {b o : Nat} {f : Fld} {s : Value} (h : C8 w b o f s) {a : Addr} (hn : a.block ≠ b) (u : Value) : C8 (w.setCell a u) b o f s := by
  obtain ⟨h0, h1, h2, h3, h4, h5, h6, h7⟩ := h
  constructor <;> (rw [World.cell?_setCell_far _ _ _ _ (by simpa using hn)]; assumption)
theorem Z8.far {w : World} {b : Nat} (h : Z8 w b) {a : Addr} (hn : a.block ≠ b) (u : Value) : Z8 (w.setCell a u) b := by
  obtain ⟨h0, h1, h2, h3, h4, h5, h6, h7, h8⟩ := h
  refine ⟨?_, ?_, ?_, ?_, ?_, ?_, ?_, ?_, fun o => by rw [World.frozen?_setCell]; exact h8 o⟩ <;> (rw [World.cell?_setCell_far _ _ _ _ (by simpa using hn)]; assumption)
/-- The second argument of two, stored anew. -/
def putB (w : World) (g : Nat) (c0 c1 c2 c3 c4 c5 c6 c7 : Value) : World := (((((((w.setCell ⟨g, 8, none⟩ c0).setCell ⟨g, 9, none⟩ c1).setCell ⟨g, 10, none⟩ c2).setCell ⟨g, 11, none⟩ c3).setCell ⟨g, 12, none⟩ c4).setCell ⟨g, 13, none⟩ c5).setCell ⟨g, 14, none⟩ c6).setCell ⟨g, 15, none⟩ c7
theorem putB_cell (w : World) {g : Nat} (c0 c1 c2 c3 c4 c5 c6 c7 : Value) {q : Addr} (h : q.block ≠ g) : (putB w g c0 c1 c2 c3 c4 c5 c6 c7).cell? q = w.cell? q := by
  unfold putB
  iterate 8 rw [World.cell?_setCell_far _ _ _ _ (fun e => h e.symm)]
theorem putB_frozen (w : World) {g : Nat} (c0 c1 c2 c3 c4 c5 c6 c7 : Value) (q : Addr) : (putB w g c0 c1 c2 c3 c4 c5 c6 c7).frozen? q = w.frozen? q := by
  unfold putB
  simp only [World.frozen?_setCell]
theorem putB_below (w : World) {g L : Nat} (c0 c1 c2 c3 c4 c5 c6 c7 : Value) (hL : L ≤ g) : Below L w (putB w g c0 c1 c2 c3 c4 c5 c6 c7) := by
  unfold putB
  refine Below.setCell (Below.setCell (Below.setCell (Below.setCell (Below.setCell (Below.setCell (Below.setCell (Below.setCell (Below.refl _ _) ?_ _) ?_ _) ?_ _) ?_ _) ?_ _) ?_ _) ?_ _) ?_ _ <;> simpa using hL
theorem C8.putB0 {w : World} {g : Nat} {f : Fld} {s : Value} (h : C8 w g 0 f s) (c0 c1 c2 c3 c4 c5 c6 c7 : Value) : C8 (putB w g c0 c1 c2 c3 c4 c5 c6 c7) g 0 f s := by
  obtain ⟨h0, h1, h2, h3, h4, h5, h6, h7⟩ := h
  simp only [Nat.zero_add] at h1 h2 h3 h4 h5 h6 h7
  unfold putB
  constructor
  · simp [go_sem, h0]
  · simp [go_sem, h1]
  · simp [go_sem, h2]
  · simp [go_sem, h3]
  · simp [go_sem, h4]
  · simp [go_sem, h5]
  · simp [go_sem, h6]
  · simp [go_sem, h7]
theorem C8.putB8 {w : World} {g : Nat} {f : Fld} {s : Value} (h : C8 w g 8 f s) (f2 : Fld) (s2 : Value) : C8 (putB w g (.int .i64 f2.op) (.string f2.media) (.int .i64 f2.frame) (.int .i64 f2.num) (.int .i64 f2.den) (.int .i64 f2.par) (.string f2.text) s2) g 8 f2 s2 := by
  obtain ⟨h0, h1, h2, h3, h4, h5, h6, h7⟩ := h
  simp only [Nat.reduceAdd] at h1 h2 h3 h4 h5 h6 h7
  unfold putB
  constructor
  · simp [go_sem, h0]
  · simp [go_sem, h1]
  · simp [go_sem, h2]
  · simp [go_sem, h3]
  · simp [go_sem, h4]
  · simp [go_sem, h5]
  · simp [go_sem, h6]
  · simp [go_sem, h7]
theorem B8.putB {w : World} {b g : Nat} {f : Fld} {s : Value} (h : B8 w b f s) (hn : b ≠ g) (c0 c1 c2 c3 c4 c5 c6 c7 : Value) : B8 (Proofs.Ytnnobdcbmagbaaa.putB w g c0 c1 c2 c3 c4 c5 c6 c7) b f s := by
  obtain ⟨h0, h1, h2, h3, h4, h5, h6, h7⟩ := h
  constructor <;> (rw [putB_cell _ _ _ _ _ _ _ _ _ (by simpa using hn)]; assumption)
theorem Z8.putB {w : World} {b g : Nat} (h : Z8 w b) (hn : b ≠ g) (c0 c1 c2 c3 c4 c5 c6 c7 : Value) : Z8 (Proofs.Ytnnobdcbmagbaaa.putB w g c0 c1 c2 c3 c4 c5 c6 c7) b := by
  obtain ⟨h0, h1, h2, h3, h4, h5, h6, h7, h8⟩ := h
  refine ⟨?_, ?_, ?_, ?_, ?_, ?_, ?_, ?_, fun o => by rw [putB_frozen]; exact h8 o⟩ <;> (rw [putB_cell _ _ _ _ _ _ _ _ _ (by simpa using hn)]; assumption)
theorem TP.putB {w : World} {B p k g : Nat} (h : TP w B p k) (h1 : g ≠ p) (h2 : B ≤ g) (c0 c1 c2 c3 c4 c5 c6 c7 : Value) : TP (Proofs.Ytnnobdcbmagbaaa.putB w g c0 c1 c2 c3 c4 c5 c6 c7) B p k :=
  (((((((h.far h1 h2 _).far h1 h2 _).far h1 h2 _).far h1 h2 _).far h1 h2 _).far h1 h2 _).far h1 h2 _).far h1 h2 _

set_option maxHeartbeats 2000000 in
theorem wpList_store8 (w : World) {ops : Array Oper} {rest : List Oper} {o : Oper} {a : Act} {Q : Exit → Act → World → Prop} (hg : o.guard = none) (x v : Operand) (hop : o.op = Op.store 58 x v) (g : Nat) (f f2 : Fld) (s : Value) (ao : Option Addr) (n c : Nat)
    (hx : a.eval x = .pointer (some ⟨g, 8, none⟩)) (hv : a.eval v = .agg #[.int .i64 f2.op, .string f2.media, .int .i64 f2.frame, .int .i64 f2.num, .int .i64 f2.den, .int .i64 f2.par, .string f2.text, .slice ao n c]) (h : C8 w g 8 f s) (hf : ∀ o, w.frozen? ⟨g, o, none⟩ = false)
    (hK : wpList Try.prog ops Q rest (a.put o.dst undef) (putB w g (.int .i64 f2.op) (.string f2.media) (.int .i64 f2.frame) (.int .i64 f2.num) (.int .i64 f2.den) (.int .i64 f2.par) (.string f2.text) (.slice ao n c))) : wpList Try.prog ops Q (o :: rest) a w := by
  refine wpList_plain hg fun K hK' => ?_
  obtain ⟨h0, h1, h2, h3, h4, h5, h6, h7⟩ := h
  simp only [Nat.reduceAdd] at h1 h2 h3 h4 h5 h6 h7
  unfold putB at hK
  unfold Oper.wp execOp
  generalize a.eval = ev at hx hv ⊢
  simp [go_sem, hop, hx, hv, h0, h1, h2, h3, h4, h5, h6, h7, hf]
  exact hK' _ _ hK

theorem name_any (n : Nat) (w : World) (h : n < 3) : Calls Try.prog 61 #[.string ⟨#[109]⟩, .int .i64 (n : Int)] w fun e w' => e = .returned (.string (mName n)) ∧ w = w' := by
  rw [← rS_name n h]
  go_enter Try.func61, Try.ntmps61
  go_wp2_with (refine wpList_rune _ rfl (.tmp 8) rfl n h rfl ?_)
  go_ret
  exact ⟨rfl, rfl⟩

end Go.Proofs.Ytnnobdcbmagbaaa
