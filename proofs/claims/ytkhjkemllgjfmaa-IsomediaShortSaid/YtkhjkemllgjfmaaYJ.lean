/- appendNumbers onto a shorter slice of a row: four bytes written over. -/
import Derived.Test.YtkhjkemllgjfmaaYI
namespace Go.Proofs.Ytkhjkemllgjfmaa
open Go.RowKit
set_option linter.unusedVariables false
set_option linter.unusedSimpArgs false

def patch (L : List Int) (k : Nat) (x : Int) : List Int := L.take k ++ (num4 x ++ L.drop (k + 4))
theorem patch_head (M N : List Int) (y x : Int) : patch (M ++ (num4 y ++ N)) M.length x = M ++ (num4 x ++ N) := by
  unfold patch
  rw [List.take_left]
  have h : (M ++ (num4 y ++ N)).drop (M.length + 4) = N := by
    rw [← List.append_assoc]
    have : (M ++ num4 y).length = M.length + 4 := by simp [num4]
    rw [← this, List.drop_left]
  rw [h]

set_option maxRecDepth 100000 in
set_option maxHeartbeats 4000000 in
theorem patch_any (g n cap k : Nat) (L : List Int) (x : Int) (B lb c : Nat) (w : World) (ho : Own w B (.slice (some ⟨g, 0, none⟩) n cap) L) (hn : n = L.length) (hk : k + 4 ≤ n) (hx : w.cell? ⟨lb, 0, none⟩ = some (.int .i64 x)) (hne : lb ≠ g) (hc : 1 ≤ c) :
    Calls Try.prog 52 #[.slice (some ⟨g, 0, none⟩) k cap, .slice (some ⟨lb, 0, none⟩) 1 c] w fun e w' => (∃ r, e = .returned r) ∧ Own w' B (.slice (some ⟨g, 0, none⟩) n cap) (patch L k x) ∧ Adv0 w w' (.slice (some ⟨g, 0, none⟩) n cap) (.slice (some ⟨g, 0, none⟩) n cap) := by
  obtain ⟨i0, hi, hz0, hz1, hz2⟩ := info_parts info5
  have hol := ho.1
  rcases ho.2 with ⟨h1, h2⟩ | ⟨g', cap', cur, e, hbg, hg, hnc, hcm, hcs, htake⟩
  · cases h1
  simp only [Value.slice.injEq, Option.some.injEq, Addr.mk.injEq, and_true] at e
  obtain ⟨rfl, _, rfl⟩ := e
  have hglt : g < w.heap.size := (Array.getElem?_eq_some_iff.1 hg).1
  have hg4 : (w.alloc (.cells (bv (num4 x)).toArray 5)).heap[g]? = some (.cells cur 5 (0, 0)) := by
    rw [(below_box w _).block g hglt]; exact hg
  have hbl := (own_lit w (num4 x) (by simp [num4, maxLen])).bl
  obtain ⟨_, _, e, _, hcl⟩ := hbl
  have hnews : ∀ j u, (bv (num4 x))[j]? = some u → (w.alloc (.cells (bv (num4 x)).toArray 5)).cell? ((⟨w.heap.size, 0, none⟩ : Addr).add j) = some u := by
    intro j u hj
    rw [Addr.add_lit]
    simp only [bv, List.getElem?_map, Option.map_eq_some_iff] at hj
    obtain ⟨z, hz, rfl⟩ := hj
    obtain ⟨b, o, e2, h3⟩ := hcl j z hz
    simp only [Value.slice.injEq] at e
    rw [← e.1] at e2
    simp only [Option.some.injEq, Addr.mk.injEq, and_true] at e2
    obtain ⟨rfl, rfl⟩ := e2
    exact h3
  have hcs' : cur.size = cap := by simpa using hcs
  have hrun := fun ty => run_append_room (P := Try.prog) (w.alloc (.cells (bv (num4 x)).toArray 5)) 22 ty 5 i0 Try.underlying22 hi g k cap cur hg4 ⟨w.heap.size, 0, none⟩ 4 4 (bv (num4 x)) (by rw [hz1]; simp [bv, num4]) hnews (bv_one _) (by omega) (by rw [hz1, bv_length]; simp [num4]; omega)
  rw [hz1] at hrun
  have HR := Lib.hid hrun
  obtain ⟨cur', hcur'⟩ : ∃ cur', cur' = (cur.toList.take (k * 1) ++ bv (num4 x) ++ cur.toList.drop (k * 1 + (bv (num4 x)).length)).toArray := ⟨_, rfl⟩
  rw [← hcur'] at HR
  have hown' : Own ((w.alloc (.cells (bv (num4 x)).toArray 5)).setRow g cur') B (.slice (some ⟨g, 0, none⟩) n cap) (patch L k x) := by
    have hpl : (patch L k x).length = n := by simp [patch, num4]; omega
    have htk : cur.toList.take n = bv L := by have := htake; rw [Nat.mul_one, ← hn] at this; exact this
    have hl4 : (bv (num4 x)).length = 4 := by simp [bv, num4]
    refine ⟨by rw [bv_length]; simp, ?_⟩
    rw [hpl]
    refine .inr ⟨g, cap, cur', rfl, hbg, setRow_heap _ g cur _ 5 _ hg4, by omega, hcm, ?_, ?_⟩
    · rw [hcur']; simp [hl4]; omega
    · rw [hcur', List.toList_toArray, Nat.mul_one, Nat.mul_one, hl4]
      have h1 : cur.toList = bv L ++ cur.toList.drop n := by rw [← htk, List.take_append_drop]
      have h2 : (bv L).length = n := by rw [bv_length, hn]
      rw [h1]
      have h3 : (bv L ++ cur.toList.drop n).take k = (bv L).take k := by rw [List.take_append_of_le_length (by omega)]
      have h4 : (bv L ++ cur.toList.drop n).drop (k + 4) = (bv L).drop (k + 4) ++ cur.toList.drop n := by rw [List.drop_append_of_le_length (by omega)]
      rw [h3, h4, ← List.append_assoc, patch, bv_append, bv_append]
      have h5 : (bv (L.take k)) = (bv L).take k := by simp [bv, List.map_take]
      have h6 : (bv (L.drop (k + 4))) = (bv L).drop (k + 4) := by simp [bv, List.map_drop]
      rw [h5, h6, List.take_append_of_le_length (by simp [h2, hl4]; omega), List.take_of_length_le (by simp [h2, hl4]; omega), List.append_assoc]
  have hadv : Adv0 w ((w.alloc (.cells (bv (num4 x)).toArray 5)).setRow g cur') (.slice (some ⟨g, 0, none⟩) n cap) (.slice (some ⟨g, 0, none⟩) n cap) :=
    ⟨⟨rfl, rfl, rfl, by simp, fun j hj hne => by
      rw [setRow_other _ g j _ (fun e => hne (by rw [e]; rfl)), (below_box w _).block j hj]⟩, .inl rfl⟩
  have HOW := Lib.hid hown'
  have HA := Lib.hid hadv
  clear ho hol hbg hg hnc hcm hcs htake hg4 e hcl hnews hcs' hrun hcur' hown' hadv
  go_enter Try.func52, Try.ntmps52
  go_wp2_with fail
  refine wp_loop_rounds 2 ?_
  rw [rounds_succ]
  go_wp2_with (at_builtin; refine Lib.wpList_append_run _ rfl (.tmp 13) (.tmp 25) 22 22 rfl _ _ rfl rfl _ _ (HR.out _) ?_)
  obtain ⟨w5, hw5⟩ : ∃ x', x' = (w.alloc (.cells (bv (num4 x)).toArray 5)).setRow g cur' := ⟨_, rfl⟩
  rw [← hw5] at HOW HA ⊢
  clear hw5 HR
  rw [rounds_succ]
  go_wp2_with fail
  go_ret
  exact ⟨⟨_, rfl⟩, HOW.out, HA.out⟩
end Go.Proofs.Ytkhjkemllgjfmaa
