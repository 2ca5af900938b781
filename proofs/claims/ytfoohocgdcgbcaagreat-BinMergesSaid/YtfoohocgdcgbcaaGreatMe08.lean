/- Texts of this claim joined: VB. -/
import Derived.Deep.QuietTactic
import Derived.Test.YtfoohocgdcgbcaaGreatMe07
import Derived.Test.YtfoohocgdcgbcaaGreatSq
set_option linter.unusedVariables false
set_option linter.unusedSimpArgs false
set_option maxRecDepth 100000
set_option maxHeartbeats 40000000
namespace Go.Proofs.YtfoohocgdcgbcaaGreat
open Go.Trk
open Go.RowKit
theorem vclip_any {L : Int} (c : Clip) (w : World) (h : Cls L c) (hL : L ≤ 140737488355328) (l0 : -1099511627776 ≤ c.len) (l1 : c.len ≤ 1099511627776) (o0 : -1099511627776 ≤ c.off) (o1 : c.off ≤ 1099511627776) (t0 : -1099511627776 ≤ c.total) (t1 : c.total ≤ 1099511627776) :
  Calls Tryz.prog 89 #[clipV c] w fun e w'=>e=.returned (.bool (decide (okLen c)))∧Below w.heap.size w w':=by
 have HA:=Hd (fun w=>vsrc_any c.a w h.a hL)
 have HB:=Hd (fun w=>vsrc_any c.b w h.b hL)
 simp only[srcV,srcC]at HA HB
 have HG:=Hd h.gn
 have HBI:=Hd (show c.b=black∨c.b.kind=1∨c.b.kind=2 from h.b.imp id (·.k))
 have HK:=Hd h.kd
 have HQ:=Hd (fun w=>run_eq_src c.b black w)
 have HQB:=Hd (fun w=>run_eq_src black black w)
 simp only[black]at HQ HQB
 clear h
 obtain⟨r,hr⟩:=Xq (decide (okLen c))
 rw[← hr]
 have HRS:=Hd hr
 clear hr
 unfold clipV
 obtain⟨C,hC⟩:=Xq ((clipC c).toArray)
 rw[← hC]
 have HC:=Hd hC
 clear hC
 go_enter Tryz.func89,Tryz.ntmps89
 go_upto_region 1 with fail
 obtain⟨w1,hw1⟩:=Xq (w.alloc (.cells C 48))
 rw[← hw1]
 rw[HC.out]at hw1
 have hx:CV w1 w.heap.size c:=by rw[hw1];exact CV.box w c 48
 have hb1:Below w.heap.size w w1:=by rw[hw1];exact below_box _ _
 obtain⟨g,hg⟩:=Xq (w.heap.size)
 rw[← hg]at hx ⊢
 have BW:=Hd hb1
 have HX:=Hd hx
 clear hw1 hb1 hg hx
 by_cases h1:1≤c.len
 ·by_cases h2:c.len≤2147483647
  ·obtain⟨x0,x1,x2,x3,x4,x5,x6,x7,x8,x9,x10,x11,x12,x13,x14,x15,x16,x17,x18,x19,x20,x21⟩:=HX.out.c.at0
   rw[HG.out]at x20
   go_wp2_with fail
   refine(channels_nil _).mono ?_
   rintro e w' ⟨rfl,rfl⟩
   go_wp2_with fail
   refine(HA.out _).mono ?_
   rintro e w2 ⟨rfl,hb⟩
   replace HX:=Hd (HX.out.below hb)
   replace BW:=Tb BW hb
   clear hb x0 x1 x2 x3 x4 x5 x6 x7 x8 x9 x10 x11 x12 x13 x14 x15 x16 x17 x18 x19 x20 x21
   obtain⟨x0,x1,x2,x3,x4,x5,x6,x7,x8,x9,x10,x11,x12,x13,x14,x15,x16,x17,x18,x19,x20,x21⟩:=HX.out.c.at0
   rw[HG.out]at x20
   go_wp2_with fail
   refine(HB.out _).mono ?_
   rintro e w3 ⟨rfl,hb⟩
   replace HX:=Hd (HX.out.below hb)
   replace BW:=Tb BW hb
   clear hb x0 x1 x2 x3 x4 x5 x6 x7 x8 x9 x10 x11 x12 x13 x14 x15 x16 x17 x18 x19 x20 x21 HA HB
   go_upto_region 3 with fail
   clear HC
   rcases HK.out with⟨k0,k1,k2,k3,k4,k5,k6⟩ |⟨k0,k2,k3,k4,k5,k6⟩ |⟨k0,k5,k6⟩ |⟨k0,k5,k5',k6⟩ |⟨k0,k3,k4,k5,k5',k6⟩ |⟨k0,k2,k3,k4,k5,k6⟩
   all_goals
    have HR:=Hd (And.intro k0 k6)
    clear HK
    have qb:=HQ.out w3
    have qq:=HQB.out w3
    obtain⟨x0,x1,x2,x3,x4,x5,x6,x7,x8,x9,x10,x11,x12,x13,x14,x15,x16,x17,x18,x19,x20,x21⟩:=HX.out.c.at0
    rw[HG.out]at x20
   ·rw[k0]at x1
    rw[k3]at x16
    rw[k4]at x17
    rw[k5]at x18
    rw[k6]at x19
    simp only[k1,black]at x2
    simp only[k1,black]at x3
    simp only[k1,black]at x4
    simp only[k1,black]at x5
    simp only[k1,black]at x6
    simp only[k1,black]at x7
    simp only[k1,black]at x8
    simp only[k2,black]at x9
    simp only[k2,black]at x10
    simp only[k2,black]at x11
    simp only[k2,black]at x12
    simp only[k2,black]at x13
    simp only[k2,black]at x14
    simp only[k2,black]at x15
    clear qb k0 k1 k2 k3 k4 k5 k6
    have hd:r=true:=HRS.out.trans <|decide_eq_true ⟨h1,h2,fun h=>absurd h (by rw[HR.out.1];decide)⟩
    subst hd
    go_upto_region 4 with fail
    go_quiet (fail)
    go_wp2_with fail
    all_goals go_ret
    all_goals first |exact⟨rfl,below_drewN BW.out _⟩ |(exfalso;omega) |exact⟨ret_bool (by simp<;>omega),below_drewN BW.out _⟩
   ·rw[k0]at x1
    rw[k3]at x16
    rw[k4]at x17
    rw[k5]at x18
    rw[k6]at x19
    simp only[k2,black]at x9
    simp only[k2,black]at x10
    simp only[k2,black]at x11
    simp only[k2,black]at x12
    simp only[k2,black]at x13
    simp only[k2,black]at x14
    simp only[k2,black]at x15
    clear qb k0 k2 k3 k4 k5 k6
    have hd:r=true:=HRS.out.trans <|decide_eq_true ⟨h1,h2,fun h=>absurd h (by rw[HR.out.1];decide)⟩
    subst hd
    go_upto_region 4 with fail
    go_quiet (fail)
    go_wp2_with fail
    all_goals go_ret
    all_goals first |exact⟨rfl,below_drewN BW.out _⟩ |(exfalso;omega) |exact⟨ret_bool (by simp<;>omega),below_drewN BW.out _⟩
   ·rw[k0]at x1
    rw[k5]at x18
    rw[k6]at x19
    clear qb qq k0 k5 k6
    rcases HBI.out with e |e |e
    ·simp only[e,black]at x9
     simp only[e,black]at x10
     simp only[e,black]at x11
     simp only[e,black]at x12
     simp only[e,black]at x13
     simp only[e,black]at x14
     simp only[e,black]at x15
     clear e
     by_cases s1:0≤c.off
     ·by_cases s2:c.len≤c.total
      ·by_cases s3:c.total≤2147483647
       ·by_cases s4:c.off≤c.total-c.len
        ·have hd:r=true:=HRS.out.trans <|decide_eq_true ⟨h1,h2,fun _=>⟨s1,s2,s3,s4⟩⟩
         subst hd
         go_upto_region 4 with fail
         go_quiet (fail)
         go_wp2_with fail
         all_goals go_ret
         all_goals first |exact⟨rfl,below_drewN BW.out _⟩ |(exfalso;omega) |exact⟨ret_bool (by simp<;>omega),below_drewN BW.out _⟩
        have hd:r=false:=HRS.out.trans <|decide_eq_false (fun h=>s4 (h.2.2 (by rw[HR.out.1];rfl)).2.2.2)
        subst hd
        go_upto_region 4 with fail
        go_quiet (fail)
        go_wp2_with fail
        all_goals go_ret
        all_goals first |exact⟨rfl,below_drewN BW.out _⟩ |(exfalso;omega) |exact⟨ret_bool (by simp<;>omega),below_drewN BW.out _⟩
       have hd:r=false:=HRS.out.trans <|decide_eq_false (fun h=>s3 (h.2.2 (by rw[HR.out.1];rfl)).2.2.1)
       subst hd
       go_upto_region 4 with fail
       go_quiet (fail)
       go_wp2_with fail
       all_goals go_ret
       all_goals first |exact⟨rfl,below_drewN BW.out _⟩ |(exfalso;omega) |exact⟨ret_bool (by simp<;>omega),below_drewN BW.out _⟩
      have hd:r=false:=HRS.out.trans <|decide_eq_false (fun h=>s2 (h.2.2 (by rw[HR.out.1];rfl)).2.1)
      subst hd
      go_upto_region 4 with fail
      go_quiet (fail)
      go_wp2_with fail
      all_goals go_ret
      all_goals first |exact⟨rfl,below_drewN BW.out _⟩ |(exfalso;omega) |exact⟨ret_bool (by simp<;>omega),below_drewN BW.out _⟩
     have hd:r=false:=HRS.out.trans <|decide_eq_false (fun h=>s1 (h.2.2 (by rw[HR.out.1];rfl)).1)
     subst hd
     go_upto_region 4 with fail
     go_quiet (fail)
     go_wp2_with fail
     all_goals go_ret
     all_goals first |exact⟨rfl,below_drewN BW.out _⟩ |(exfalso;omega) |exact⟨ret_bool (by simp<;>omega),below_drewN BW.out _⟩
    all_goals
     rw[e]at x9
     clear e
     by_cases s1:0≤c.off
     ·by_cases s2:c.len≤c.total
      ·by_cases s3:c.total≤2147483647
       ·by_cases s4:c.off≤c.total-c.len
        ·have hd:r=true:=HRS.out.trans <|decide_eq_true ⟨h1,h2,fun _=>⟨s1,s2,s3,s4⟩⟩
         subst hd
         go_upto_region 4 with fail
         go_quiet (fail)
         go_wp2_with fail
         all_goals go_ret
         all_goals first |exact⟨rfl,below_drewN BW.out _⟩ |(exfalso;omega) |exact⟨ret_bool (by simp<;>omega),below_drewN BW.out _⟩
        have hd:r=false:=HRS.out.trans <|decide_eq_false (fun h=>s4 (h.2.2 (by rw[HR.out.1];rfl)).2.2.2)
        subst hd
        go_upto_region 4 with fail
        go_quiet (fail)
        go_wp2_with fail
        all_goals go_ret
        all_goals first |exact⟨rfl,below_drewN BW.out _⟩ |(exfalso;omega) |exact⟨ret_bool (by simp<;>omega),below_drewN BW.out _⟩
       have hd:r=false:=HRS.out.trans <|decide_eq_false (fun h=>s3 (h.2.2 (by rw[HR.out.1];rfl)).2.2.1)
       subst hd
       go_upto_region 4 with fail
       go_quiet (fail)
       go_wp2_with fail
       all_goals go_ret
       all_goals first |exact⟨rfl,below_drewN BW.out _⟩ |(exfalso;omega) |exact⟨ret_bool (by simp<;>omega),below_drewN BW.out _⟩
      have hd:r=false:=HRS.out.trans <|decide_eq_false (fun h=>s2 (h.2.2 (by rw[HR.out.1];rfl)).2.1)
      subst hd
      go_upto_region 4 with fail
      go_quiet (fail)
      go_wp2_with fail
      all_goals go_ret
      all_goals first |exact⟨rfl,below_drewN BW.out _⟩ |(exfalso;omega) |exact⟨ret_bool (by simp<;>omega),below_drewN BW.out _⟩
     have hd:r=false:=HRS.out.trans <|decide_eq_false (fun h=>s1 (h.2.2 (by rw[HR.out.1];rfl)).1)
     subst hd
     go_upto_region 4 with fail
     go_quiet (fail)
     go_wp2_with fail
     all_goals go_ret
     all_goals first |exact⟨rfl,below_drewN BW.out _⟩ |(exfalso;omega) |exact⟨ret_bool (by simp<;>omega),below_drewN BW.out _⟩
   ·rw[k0]at x1
    rw[k6]at x19
    clear qb qq k0 k6
    rcases HBI.out with e |e |e
    ·simp only[e,black]at x9
     simp only[e,black]at x10
     simp only[e,black]at x11
     simp only[e,black]at x12
     simp only[e,black]at x13
     simp only[e,black]at x14
     simp only[e,black]at x15
     clear e
     by_cases s1:0≤c.off
     ·by_cases s2:c.len≤c.total
      ·by_cases s3:c.total≤2147483647
       ·by_cases s4:c.off≤c.total-c.len
        ·have hd:r=true:=HRS.out.trans <|decide_eq_true ⟨h1,h2,fun _=>⟨s1,s2,s3,s4⟩⟩
         subst hd
         go_upto_region 4 with fail
         go_quiet (fail)
         go_wp2_with fail
         all_goals go_ret
         all_goals first |exact⟨rfl,below_drewN BW.out _⟩ |(exfalso;omega) |exact⟨ret_bool (by simp<;>omega),below_drewN BW.out _⟩
        have hd:r=false:=HRS.out.trans <|decide_eq_false (fun h=>s4 (h.2.2 (by rw[HR.out.1];rfl)).2.2.2)
        subst hd
        go_upto_region 4 with fail
        go_quiet (fail)
        go_wp2_with fail
        all_goals go_ret
        all_goals first |exact⟨rfl,below_drewN BW.out _⟩ |(exfalso;omega) |exact⟨ret_bool (by simp<;>omega),below_drewN BW.out _⟩
       have hd:r=false:=HRS.out.trans <|decide_eq_false (fun h=>s3 (h.2.2 (by rw[HR.out.1];rfl)).2.2.1)
       subst hd
       go_upto_region 4 with fail
       go_quiet (fail)
       go_wp2_with fail
       all_goals go_ret
       all_goals first |exact⟨rfl,below_drewN BW.out _⟩ |(exfalso;omega) |exact⟨ret_bool (by simp<;>omega),below_drewN BW.out _⟩
      have hd:r=false:=HRS.out.trans <|decide_eq_false (fun h=>s2 (h.2.2 (by rw[HR.out.1];rfl)).2.1)
      subst hd
      go_upto_region 4 with fail
      go_quiet (fail)
      go_wp2_with fail
      all_goals go_ret
      all_goals first |exact⟨rfl,below_drewN BW.out _⟩ |(exfalso;omega) |exact⟨ret_bool (by simp<;>omega),below_drewN BW.out _⟩
     have hd:r=false:=HRS.out.trans <|decide_eq_false (fun h=>s1 (h.2.2 (by rw[HR.out.1];rfl)).1)
     subst hd
     go_upto_region 4 with fail
     go_quiet (fail)
     go_wp2_with fail
     all_goals go_ret
     all_goals first |exact⟨rfl,below_drewN BW.out _⟩ |(exfalso;omega) |exact⟨ret_bool (by simp<;>omega),below_drewN BW.out _⟩
    all_goals
     rw[e]at x9
     clear e
     by_cases s1:0≤c.off
     ·by_cases s2:c.len≤c.total
      ·by_cases s3:c.total≤2147483647
       ·by_cases s4:c.off≤c.total-c.len
        ·have hd:r=true:=HRS.out.trans <|decide_eq_true ⟨h1,h2,fun _=>⟨s1,s2,s3,s4⟩⟩
         subst hd
         go_upto_region 4 with fail
         go_quiet (fail)
         go_wp2_with fail
         all_goals go_ret
         all_goals first |exact⟨rfl,below_drewN BW.out _⟩ |(exfalso;omega) |exact⟨ret_bool (by simp<;>omega),below_drewN BW.out _⟩
        have hd:r=false:=HRS.out.trans <|decide_eq_false (fun h=>s4 (h.2.2 (by rw[HR.out.1];rfl)).2.2.2)
        subst hd
        go_upto_region 4 with fail
        go_quiet (fail)
        go_wp2_with fail
        all_goals go_ret
        all_goals first |exact⟨rfl,below_drewN BW.out _⟩ |(exfalso;omega) |exact⟨ret_bool (by simp<;>omega),below_drewN BW.out _⟩
       have hd:r=false:=HRS.out.trans <|decide_eq_false (fun h=>s3 (h.2.2 (by rw[HR.out.1];rfl)).2.2.1)
       subst hd
       go_upto_region 4 with fail
       go_quiet (fail)
       go_wp2_with fail
       all_goals go_ret
       all_goals first |exact⟨rfl,below_drewN BW.out _⟩ |(exfalso;omega) |exact⟨ret_bool (by simp<;>omega),below_drewN BW.out _⟩
      have hd:r=false:=HRS.out.trans <|decide_eq_false (fun h=>s2 (h.2.2 (by rw[HR.out.1];rfl)).2.1)
      subst hd
      go_upto_region 4 with fail
      go_quiet (fail)
      go_wp2_with fail
      all_goals go_ret
      all_goals first |exact⟨rfl,below_drewN BW.out _⟩ |(exfalso;omega) |exact⟨ret_bool (by simp<;>omega),below_drewN BW.out _⟩
     have hd:r=false:=HRS.out.trans <|decide_eq_false (fun h=>s1 (h.2.2 (by rw[HR.out.1];rfl)).1)
     subst hd
     go_upto_region 4 with fail
     go_quiet (fail)
     go_wp2_with fail
     all_goals go_ret
     all_goals first |exact⟨rfl,below_drewN BW.out _⟩ |(exfalso;omega) |exact⟨ret_bool (by simp<;>omega),below_drewN BW.out _⟩
   ·rw[k0]at x1
    rw[k3]at x16
    rw[k4]at x17
    rw[k6]at x19
    clear qb qq k0 k3 k4 k6
    rcases HBI.out with e |e |e
    ·simp only[e,black]at x9
     simp only[e,black]at x10
     simp only[e,black]at x11
     simp only[e,black]at x12
     simp only[e,black]at x13
     simp only[e,black]at x14
     simp only[e,black]at x15
     clear e
     have hd:r=true:=HRS.out.trans <|decide_eq_true ⟨h1,h2,fun h=>absurd h (by rw[HR.out.1];decide)⟩
     subst hd
     go_upto_region 4 with fail
     go_quiet (fail)
     go_wp2_with fail
     all_goals go_ret
     all_goals first |exact⟨rfl,below_drewN BW.out _⟩ |(exfalso;omega) |exact⟨ret_bool (by simp<;>omega),below_drewN BW.out _⟩
    all_goals
     rw[e]at x9
     clear e
     have hd:r=true:=HRS.out.trans <|decide_eq_true ⟨h1,h2,fun h=>absurd h (by rw[HR.out.1];decide)⟩
     subst hd
     go_upto_region 4 with fail
     go_quiet (fail)
     go_wp2_with fail
     all_goals go_ret
     all_goals first |exact⟨rfl,below_drewN BW.out _⟩ |(exfalso;omega) |exact⟨ret_bool (by simp<;>omega),below_drewN BW.out _⟩
   rw[k0]at x1
   rw[k3]at x16
   rw[k4]at x17
   rw[k5]at x18
   simp only[k2,black]at x9
   simp only[k2,black]at x10
   simp only[k2,black]at x11
   simp only[k2,black]at x12
   simp only[k2,black]at x13
   simp only[k2,black]at x14
   simp only[k2,black]at x15
   have HT:=Hd (fun w=>line_any c.text w k6.1 k6.2.1 k6.2.2)
   clear qb k0 k2 k3 k4 k5 k6
   have hd:r=true:=HRS.out.trans <|decide_eq_true ⟨h1,h2,fun h=>absurd h (by rw[HR.out.1];decide)⟩
   subst hd
   go_upto_region 4 with fail
   go_quiet (fail)
   go_wp2_with fail
   refine(HT.out _).mono ?_
   rintro e w' ⟨rfl,rfl⟩
   go_wp2_with fail
   all_goals go_ret
   all_goals first |exact⟨rfl,below_drewN BW.out _⟩ |(exfalso;omega) |exact⟨ret_bool (by simp<;>omega),below_drewN BW.out _⟩
  obtain⟨x0,x1,x2,x3,x4,x5,x6,x7,x8,x9,x10,x11,x12,x13,x14,x15,x16,x17,x18,x19,x20,x21⟩:=HX.out.c.at0
  have hd:r=false:=HRS.out.trans <|decide_eq_false (fun h=>h2 h.2.1)
  subst hd
  go_wp2_with fail
  go_ret
  exact⟨rfl,BW.out⟩
 obtain⟨x0,x1,x2,x3,x4,x5,x6,x7,x8,x9,x10,x11,x12,x13,x14,x15,x16,x17,x18,x19,x20,x21⟩:=HX.out.c.at0
 have hd:r=false:=HRS.out.trans <|decide_eq_false (fun h=>h1 h.1)
 subst hd
 go_wp2_with fail
 go_ret
 exact⟨rfl,BW.out⟩
end Go.Proofs.YtfoohocgdcgbcaaGreat
