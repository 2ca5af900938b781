/- Texts of this claim joined: VZ. -/
import Derived.Test.YtfoohocgdcgbcaaGreatMe10
import Derived.Test.YtfoohocgdcgbcaaGreatSq
set_option linter.unusedVariables false
set_option linter.unusedSimpArgs false
set_option maxRecDepth 100000
set_option maxHeartbeats 40000000
namespace Go.Proofs.YtfoohocgdcgbcaaGreat
open Go.Trk
open Go.RowKit
theorem within_yes (n low:Int) (w:World) (h0:low≤n) (h1:n≤2147483647):Calls Tryz.prog 119 #[.int .i64 n,.int .i64 low] w fun e w'=>e=.returned (.bool true)∧w'=w:=by
 go_enter Tryz.func119,Tryz.ntmps119
 go_wp2_with fail
 go_ret
 exact⟨rfl,rfl⟩
theorem within_no (n low:Int) (w:World) (h:n<low∨2147483647<n):Calls Tryz.prog 119 #[.int .i64 n,.int .i64 low] w fun e w'=>e=.returned (.bool false)∧w'=w:=by
 by_cases h0:n<low
 ·clear h
  go_enter Tryz.func119,Tryz.ntmps119
  go_wp2_with fail
  go_ret
  exact⟨rfl,rfl⟩
 have h1:2147483647<n:=by omega
 have h2:low≤n:=by omega
 clear h h0
 go_enter Tryz.func119,Tryz.ntmps119
 go_wp2_with fail
 go_ret
 exact⟨by first |rfl |exact ret_bool (by simp;omega),rfl⟩
theorem vclips_yes {L:Int} (v:Value) (l:List Clip) (w:World) (h:Tk w v l) (hV:VT L l) (hL:L≤140737488355328) (hn:l≠[]):Calls Tryz.prog 120 #[v] w fun e w'=>e=.returned (.bool true)∧Below w.heap.size w w':=by
 have HV:=Hd (vtrack_any v l w h hV hL)
 obtain⟨ao,cap,rfl,h1,h2,h3⟩:=h
 have h0:0<l.length:=List.length_pos_iff.2 hn
 obtain⟨N,hN⟩:=Xq (l.length)
 rw[← hN]at h0 HV ⊢
 have h0':(0:Int)<(N:Int):=by omega
 clear h1 h2 h3 hN hV hn
 go_enter Tryz.func120,Tryz.ntmps120
 go_wp2_with fail
 refine HV.out.mono ?_
 rintro e w1 ⟨rfl,hb⟩
 have HB:=Hd hb
 clear hb
 go_wp2_with fail
 go_ret
 exact⟨rfl,HB.out⟩
structure ExV (L:Int) (e:Ed):Prop where
 x:e.Ex
 v:VT L e.ins
 m:e.k=1∨e.k=3→e.m=0
 p:e.p≤2147483647
 t:e.T≤2147483647
 c:e.c=0
 d:e.d=0
 sn:e.sn=0
 sd:e.sd=0
theorem valid_ex {L:Int} (u:Value) (e:Ed) (w:World) (hu:Tk w u e.ins) (h:ExV L e) (hL:L≤140737488355328):Calls Tryz.prog 84 #[EdV e u] w fun ev w'=>ev=.returned (.bool true)∧Below w.heap.size w w':=by
 obtain⟨k,p,m,c,d,sn,sd,ins⟩:=e
 obtain⟨hx,hv,hm,hp,ht,rfl,rfl,rfl,rfl⟩:=h
 have hk:=hx.k
 have hp0:=hx.p
 have hi:=hx.i
 have hT:=hx.t
 dsimp only at hk hp0 hi hm hp hv hu
 have hTi:(k=1∨k=3)→ins≠[]:=fun h e=>by
  unfold Ed.T at hT
  rw[if_pos h,e]at hT
  have h2:(1:Int)≤Trk.total ([]:List Clip):=hT
  exact absurd h2 (by decide)
 have hTm:(k=2∨k=4)→1≤m∧m≤2147483647:=fun h=>by
  unfold Ed.T at hT ht
  rw[if_neg (by dsimp only;omega)]at hT ht
  exact⟨hT,ht⟩
 have HVC:=Hd (fun w (h:Tk w u ins) hn=>vclips_yes u ins w h hv hL hn)
 have HU:=Hd hu
 obtain⟨ao,cap,rfl,-⟩:=hu
 have hlen:(k=2∨k=4)→ins.length=0:=fun h=>by rw[hi h];rfl
 obtain⟨N,hN⟩:=Xq (ins.length)
 rw[← hN]at hlen HVC HU
 unfold EdV edV
 dsimp only
 rw[← hN]
 clear hi hT ht hx hv hN
 rcases hk with rfl |rfl |rfl |rfl
 ·have hm0:=hm (.inl rfl)
  have HNE:=Hd (hTi (.inl rfl))
  subst hm0
  clear hm hTi hTm hlen
  obtain⟨EE,hEE⟩:=Xq (edC 1 p 0 0 0 0 0 (.slice ao N cap))
  rw[← hEE]
  have HEE:=Hd hEE
  clear hEE
  go_enter Tryz.func84,Tryz.ntmps84
  go_upto_region 1 with fail
  obtain⟨w1,hw1⟩:=Xq (w.alloc (.cells EE 40))
  rw[← hw1]
  obtain⟨g,hg⟩:=Xq (w.heap.size)
  rw[← hg]
  have HE:=Hd (show ED w1 g 1 p 0 0 0 0 0 (.slice ao N cap) by rw[hw1,hg,HEE.out];exact ED.box w 1 p 0 0 0 0 0 (.slice ao N cap) rfl 40)
  have HB:=Hd (show Below w.heap.size w w1 by rw[hw1];exact below_box _ _)
  clear hw1 hg HEE
  obtain⟨e0,e1,e2,e3,e4,e5,e6,e7,ef⟩:=HE.out
  go_cut [3] from 7 (fun v3 wx=>(∃ t,v3=.bool t)∧wx=w1)
  case first=>
   go_wp2_with fail
   all_goals go_meet
   all_goals exact⟨⟨_,rfl⟩,rfl⟩
  obtain⟨⟨t3,rfl⟩,rfl⟩:=hcut
  go_wp2_with fail
  refine(within_yes p 0 _ hp0 hp).mono ?_
  rintro e w' ⟨rfl,rfl⟩
  go_wp2_with fail
  refine(HVC.out _ (HU.out.below HB.out) HNE.out).mono ?_
  rintro e w2 ⟨rfl,hb⟩
  have HB2:=Tb HB hb
  clear hb e0 e1 e2 e3 e4 e5 e6 e7 ef
  go_wp2_with fail
  go_ret
  exact⟨rfl,HB2.out⟩
 ·obtain⟨hm0,hm1⟩:=hTm (.inl rfl)
  have hn0:=hlen (.inl rfl)
  subst hn0
  clear hm hTi hTm hlen
  obtain⟨EE,hEE⟩:=Xq (edC 2 p m 0 0 0 0 (.slice ao 0 cap))
  rw[← hEE]
  have HEE:=Hd hEE
  clear hEE
  go_enter Tryz.func84,Tryz.ntmps84
  go_upto_region 1 with fail
  obtain⟨w1,hw1⟩:=Xq (w.alloc (.cells EE 40))
  rw[← hw1]
  obtain⟨g,hg⟩:=Xq (w.heap.size)
  rw[← hg]
  have HE:=Hd (show ED w1 g 2 p m 0 0 0 0 (.slice ao 0 cap) by rw[hw1,hg,HEE.out];exact ED.box w 2 p m 0 0 0 0 (.slice ao 0 cap) rfl 40)
  have HB:=Hd (show Below w.heap.size w w1 by rw[hw1];exact below_box _ _)
  clear hw1 hg HEE
  obtain⟨e0,e1,e2,e3,e4,e5,e6,e7,ef⟩:=HE.out
  go_cut [3] from 7 (fun v3 wx=>(∃ t,v3=.bool t)∧wx=w1)
  case first=>
   go_wp2_with fail
   all_goals go_meet
   all_goals exact⟨⟨_,rfl⟩,rfl⟩
  obtain⟨⟨t3,rfl⟩,rfl⟩:=hcut
  go_wp2_with fail
  refine(within_yes p 0 _ hp0 hp).mono ?_
  rintro e w' ⟨rfl,rfl⟩
  go_wp2_with fail
  refine(within_yes m 1 _ hm0 hm1).mono ?_
  rintro e w' ⟨rfl,rfl⟩
  go_wp2_with fail
  go_ret
  exact⟨rfl,HB.out⟩
 ·have hm0:=hm (.inr rfl)
  have HNE:=Hd (hTi (.inr rfl))
  subst hm0
  clear hm hTi hTm hlen
  obtain⟨EE,hEE⟩:=Xq (edC 3 p 0 0 0 0 0 (.slice ao N cap))
  rw[← hEE]
  have HEE:=Hd hEE
  clear hEE
  go_enter Tryz.func84,Tryz.ntmps84
  go_upto_region 1 with fail
  obtain⟨w1,hw1⟩:=Xq (w.alloc (.cells EE 40))
  rw[← hw1]
  obtain⟨g,hg⟩:=Xq (w.heap.size)
  rw[← hg]
  have HE:=Hd (show ED w1 g 3 p 0 0 0 0 0 (.slice ao N cap) by rw[hw1,hg,HEE.out];exact ED.box w 3 p 0 0 0 0 0 (.slice ao N cap) rfl 40)
  have HB:=Hd (show Below w.heap.size w w1 by rw[hw1];exact below_box _ _)
  clear hw1 hg HEE
  obtain⟨e0,e1,e2,e3,e4,e5,e6,e7,ef⟩:=HE.out
  go_cut [3] from 7 (fun v3 wx=>(∃ t,v3=.bool t)∧wx=w1)
  case first=>
   go_wp2_with fail
   all_goals go_meet
   all_goals exact⟨⟨_,rfl⟩,rfl⟩
  obtain⟨⟨t3,rfl⟩,rfl⟩:=hcut
  go_wp2_with fail
  refine(within_yes p 0 _ hp0 hp).mono ?_
  rintro e w' ⟨rfl,rfl⟩
  go_wp2_with fail
  refine(HVC.out _ (HU.out.below HB.out) HNE.out).mono ?_
  rintro e w2 ⟨rfl,hb⟩
  have HB2:=Tb HB hb
  clear hb e0 e1 e2 e3 e4 e5 e6 e7 ef
  go_wp2_with fail
  go_ret
  exact⟨rfl,HB2.out⟩
 obtain⟨hm0,hm1⟩:=hTm (.inr rfl)
 have hn0:=hlen (.inr rfl)
 subst hn0
 clear hm hTi hTm hlen
 obtain⟨EE,hEE⟩:=Xq (edC 4 p m 0 0 0 0 (.slice ao 0 cap))
 rw[← hEE]
 have HEE:=Hd hEE
 clear hEE
 go_enter Tryz.func84,Tryz.ntmps84
 go_upto_region 1 with fail
 obtain⟨w1,hw1⟩:=Xq (w.alloc (.cells EE 40))
 rw[← hw1]
 obtain⟨g,hg⟩:=Xq (w.heap.size)
 rw[← hg]
 have HE:=Hd (show ED w1 g 4 p m 0 0 0 0 (.slice ao 0 cap) by rw[hw1,hg,HEE.out];exact ED.box w 4 p m 0 0 0 0 (.slice ao 0 cap) rfl 40)
 have HB:=Hd (show Below w.heap.size w w1 by rw[hw1];exact below_box _ _)
 clear hw1 hg HEE
 obtain⟨e0,e1,e2,e3,e4,e5,e6,e7,ef⟩:=HE.out
 go_cut [3] from 7 (fun v3 wx=>(∃ t,v3=.bool t)∧wx=w1)
 case first=>
  go_wp2_with fail
  all_goals go_meet
  all_goals exact⟨⟨_,rfl⟩,rfl⟩
 obtain⟨⟨t3,rfl⟩,rfl⟩:=hcut
 go_wp2_with fail
 refine(within_yes p 0 _ hp0 hp).mono ?_
 rintro e w' ⟨rfl,rfl⟩
 go_wp2_with fail
 refine(within_yes m 1 _ hm0 hm1).mono ?_
 rintro e w' ⟨rfl,rfl⟩
 go_wp2_with fail
 go_ret
 exact⟨rfl,HB.out⟩
theorem valid_adj (k:Int) (c:Nat) (d:Int) (ao:Option Addr) (cap:Nat) (w:World) (hk:5≤k∧k≤9) (hc:c≤1048576) :
  Calls Tryz.prog 84 #[edV k 0 0 (c:Int) d 0 0 (.slice ao 0 cap)] w fun ev w'=>ev=.returned (.bool (decide (d≠0∧-2147483647≤d∧d≤2147483647)))∧Below w.heap.size w w':=by
 obtain⟨r,hr⟩:=Xq (decide (d≠0∧-2147483647≤d∧d≤2147483647))
 rw[← hr]
 have HR:=Hd hr
 unfold edV
 have hk5:k=5∨k=6∨k=7∨k=8∨k=9:=by omega
 clear hk hr
 have hc0:(0:Int)≤(c:Int):=by omega
 by_cases hd:d=0
 ·subst hd
  have HR2:=Hd (show r=false by rw[HR.out];rfl)
  clear HR
  rcases hk5 with rfl |rfl |rfl |rfl |rfl
  ·obtain⟨EE,hEE⟩:=Xq (edC 5 0 0 (c:Int) 0 0 0 (.slice ao 0 cap))
   rw[← hEE]
   have HEE:=Hd hEE
   clear hEE
   go_enter Tryz.func84,Tryz.ntmps84
   go_upto_region 1 with fail
   obtain⟨w1,hw1⟩:=Xq (w.alloc (.cells EE 40))
   rw[← hw1]
   obtain⟨g,hg⟩:=Xq (w.heap.size)
   rw[← hg]
   have HE:=Hd (show ED w1 g 5 0 0 (c:Int) 0 0 0 (.slice ao 0 cap) by rw[hw1,hg,HEE.out];exact ED.box w 5 0 0 (c:Int) 0 0 0 (.slice ao 0 cap) rfl 40)
   have HB:=Hd (show Below w.heap.size w w1 by rw[hw1];exact below_box _ _)
   clear hw1 hg HEE
   obtain⟨e0,e1,e2,e3,e4,e5,e6,e7,ef⟩:=HE.out
   go_upto_region 2 with fail
   go_cut [4] from 7 (fun v4 wx=>(∃ t,v4=.bool t)∧wx=w1)
   case first=>
    go_wp2_with fail
    all_goals go_meet
    all_goals exact⟨⟨_,rfl⟩,rfl⟩
   obtain⟨⟨t4,rfl⟩,rfl⟩:=hcut
   go_wp2_with fail
   go_ret
   exact⟨by rw[HR2.out];first |rfl |exact ret_bool (by simp[HD0.out]),HB.out⟩
  ·obtain⟨EE,hEE⟩:=Xq (edC 6 0 0 (c:Int) 0 0 0 (.slice ao 0 cap))
   rw[← hEE]
   have HEE:=Hd hEE
   clear hEE
   go_enter Tryz.func84,Tryz.ntmps84
   go_upto_region 1 with fail
   obtain⟨w1,hw1⟩:=Xq (w.alloc (.cells EE 40))
   rw[← hw1]
   obtain⟨g,hg⟩:=Xq (w.heap.size)
   rw[← hg]
   have HE:=Hd (show ED w1 g 6 0 0 (c:Int) 0 0 0 (.slice ao 0 cap) by rw[hw1,hg,HEE.out];exact ED.box w 6 0 0 (c:Int) 0 0 0 (.slice ao 0 cap) rfl 40)
   have HB:=Hd (show Below w.heap.size w w1 by rw[hw1];exact below_box _ _)
   clear hw1 hg HEE
   obtain⟨e0,e1,e2,e3,e4,e5,e6,e7,ef⟩:=HE.out
   go_upto_region 2 with fail
   go_cut [4] from 7 (fun v4 wx=>(∃ t,v4=.bool t)∧wx=w1)
   case first=>
    go_wp2_with fail
    all_goals go_meet
    all_goals exact⟨⟨_,rfl⟩,rfl⟩
   obtain⟨⟨t4,rfl⟩,rfl⟩:=hcut
   go_wp2_with fail
   go_ret
   exact⟨by rw[HR2.out];first |rfl |exact ret_bool (by simp[HD0.out]),HB.out⟩
  ·obtain⟨EE,hEE⟩:=Xq (edC 7 0 0 (c:Int) 0 0 0 (.slice ao 0 cap))
   rw[← hEE]
   have HEE:=Hd hEE
   clear hEE
   go_enter Tryz.func84,Tryz.ntmps84
   go_upto_region 1 with fail
   obtain⟨w1,hw1⟩:=Xq (w.alloc (.cells EE 40))
   rw[← hw1]
   obtain⟨g,hg⟩:=Xq (w.heap.size)
   rw[← hg]
   have HE:=Hd (show ED w1 g 7 0 0 (c:Int) 0 0 0 (.slice ao 0 cap) by rw[hw1,hg,HEE.out];exact ED.box w 7 0 0 (c:Int) 0 0 0 (.slice ao 0 cap) rfl 40)
   have HB:=Hd (show Below w.heap.size w w1 by rw[hw1];exact below_box _ _)
   clear hw1 hg HEE
   obtain⟨e0,e1,e2,e3,e4,e5,e6,e7,ef⟩:=HE.out
   go_upto_region 2 with fail
   go_cut [4] from 7 (fun v4 wx=>(∃ t,v4=.bool t)∧wx=w1)
   case first=>
    go_wp2_with fail
    all_goals go_meet
    all_goals exact⟨⟨_,rfl⟩,rfl⟩
   obtain⟨⟨t4,rfl⟩,rfl⟩:=hcut
   go_wp2_with fail
   go_ret
   exact⟨by rw[HR2.out];first |rfl |exact ret_bool (by simp[HD0.out]),HB.out⟩
  ·obtain⟨EE,hEE⟩:=Xq (edC 8 0 0 (c:Int) 0 0 0 (.slice ao 0 cap))
   rw[← hEE]
   have HEE:=Hd hEE
   clear hEE
   go_enter Tryz.func84,Tryz.ntmps84
   go_upto_region 1 with fail
   obtain⟨w1,hw1⟩:=Xq (w.alloc (.cells EE 40))
   rw[← hw1]
   obtain⟨g,hg⟩:=Xq (w.heap.size)
   rw[← hg]
   have HE:=Hd (show ED w1 g 8 0 0 (c:Int) 0 0 0 (.slice ao 0 cap) by rw[hw1,hg,HEE.out];exact ED.box w 8 0 0 (c:Int) 0 0 0 (.slice ao 0 cap) rfl 40)
   have HB:=Hd (show Below w.heap.size w w1 by rw[hw1];exact below_box _ _)
   clear hw1 hg HEE
   obtain⟨e0,e1,e2,e3,e4,e5,e6,e7,ef⟩:=HE.out
   go_upto_region 2 with fail
   go_cut [4] from 7 (fun v4 wx=>(∃ t,v4=.bool t)∧wx=w1)
   case first=>
    go_wp2_with fail
    all_goals go_meet
    all_goals exact⟨⟨_,rfl⟩,rfl⟩
   obtain⟨⟨t4,rfl⟩,rfl⟩:=hcut
   go_wp2_with fail
   go_ret
   exact⟨by rw[HR2.out];first |rfl |exact ret_bool (by simp[HD0.out]),HB.out⟩
  obtain⟨EE,hEE⟩:=Xq (edC 9 0 0 (c:Int) 0 0 0 (.slice ao 0 cap))
  rw[← hEE]
  have HEE:=Hd hEE
  clear hEE
  go_enter Tryz.func84,Tryz.ntmps84
  go_upto_region 1 with fail
  obtain⟨w1,hw1⟩:=Xq (w.alloc (.cells EE 40))
  rw[← hw1]
  obtain⟨g,hg⟩:=Xq (w.heap.size)
  rw[← hg]
  have HE:=Hd (show ED w1 g 9 0 0 (c:Int) 0 0 0 (.slice ao 0 cap) by rw[hw1,hg,HEE.out];exact ED.box w 9 0 0 (c:Int) 0 0 0 (.slice ao 0 cap) rfl 40)
  have HB:=Hd (show Below w.heap.size w w1 by rw[hw1];exact below_box _ _)
  clear hw1 hg HEE
  obtain⟨e0,e1,e2,e3,e4,e5,e6,e7,ef⟩:=HE.out
  go_upto_region 2 with fail
  go_cut [4] from 7 (fun v4 wx=>(∃ t,v4=.bool t)∧wx=w1)
  case first=>
   go_wp2_with fail
   all_goals go_meet
   all_goals exact⟨⟨_,rfl⟩,rfl⟩
  obtain⟨⟨t4,rfl⟩,rfl⟩:=hcut
  go_wp2_with fail
  go_ret
  exact⟨by rw[HR2.out];first |rfl |exact ret_bool (by simp[HD0.out]),HB.out⟩
 have hd0:(d==0)=false:=by simpa using hd
 by_cases hw:-2147483647≤d∧d≤2147483647
 ·have HR2:=Hd (show r=true by rw[HR.out];exact decide_eq_true ⟨hd,hw⟩)
  obtain⟨hw1,hw2⟩:=hw
  have HD0:=Hd hd
  clear HR
  rcases hk5 with rfl |rfl |rfl |rfl |rfl
  ·obtain⟨EE,hEE⟩:=Xq (edC 5 0 0 (c:Int) d 0 0 (.slice ao 0 cap))
   rw[← hEE]
   have HEE:=Hd hEE
   clear hEE
   go_enter Tryz.func84,Tryz.ntmps84
   go_upto_region 1 with fail
   obtain⟨w1,hw1⟩:=Xq (w.alloc (.cells EE 40))
   rw[← hw1]
   obtain⟨g,hg⟩:=Xq (w.heap.size)
   rw[← hg]
   have HE:=Hd (show ED w1 g 5 0 0 (c:Int) d 0 0 (.slice ao 0 cap) by rw[hw1,hg,HEE.out];exact ED.box w 5 0 0 (c:Int) d 0 0 (.slice ao 0 cap) rfl 40)
   have HB:=Hd (show Below w.heap.size w w1 by rw[hw1];exact below_box _ _)
   clear hw1 hg HEE
   obtain⟨e0,e1,e2,e3,e4,e5,e6,e7,ef⟩:=HE.out
   go_upto_region 2 with fail
   go_cut [4] from 7 (fun v4 wx=>(∃ t,v4=.bool t)∧wx=w1)
   case first=>
    go_wp2_with fail
    all_goals go_meet
    all_goals exact⟨⟨_,rfl⟩,rfl⟩
   obtain⟨⟨t4,rfl⟩,rfl⟩:=hcut
   go_wp2_with fail
   refine(within_yes d (-2147483647) _ hw1 hw2).mono ?_
   rintro e w' ⟨rfl,rfl⟩
   go_wp2_with fail
   go_ret
   exact⟨by rw[HR2.out];first |rfl |exact ret_bool (by simp[HD0.out]),HB.out⟩
  ·obtain⟨EE,hEE⟩:=Xq (edC 6 0 0 (c:Int) d 0 0 (.slice ao 0 cap))
   rw[← hEE]
   have HEE:=Hd hEE
   clear hEE
   go_enter Tryz.func84,Tryz.ntmps84
   go_upto_region 1 with fail
   obtain⟨w1,hw1⟩:=Xq (w.alloc (.cells EE 40))
   rw[← hw1]
   obtain⟨g,hg⟩:=Xq (w.heap.size)
   rw[← hg]
   have HE:=Hd (show ED w1 g 6 0 0 (c:Int) d 0 0 (.slice ao 0 cap) by rw[hw1,hg,HEE.out];exact ED.box w 6 0 0 (c:Int) d 0 0 (.slice ao 0 cap) rfl 40)
   have HB:=Hd (show Below w.heap.size w w1 by rw[hw1];exact below_box _ _)
   clear hw1 hg HEE
   obtain⟨e0,e1,e2,e3,e4,e5,e6,e7,ef⟩:=HE.out
   go_upto_region 2 with fail
   go_cut [4] from 7 (fun v4 wx=>(∃ t,v4=.bool t)∧wx=w1)
   case first=>
    go_wp2_with fail
    all_goals go_meet
    all_goals exact⟨⟨_,rfl⟩,rfl⟩
   obtain⟨⟨t4,rfl⟩,rfl⟩:=hcut
   go_wp2_with fail
   refine(within_yes d (-2147483647) _ hw1 hw2).mono ?_
   rintro e w' ⟨rfl,rfl⟩
   go_wp2_with fail
   go_ret
   exact⟨by rw[HR2.out];first |rfl |exact ret_bool (by simp[HD0.out]),HB.out⟩
  ·obtain⟨EE,hEE⟩:=Xq (edC 7 0 0 (c:Int) d 0 0 (.slice ao 0 cap))
   rw[← hEE]
   have HEE:=Hd hEE
   clear hEE
   go_enter Tryz.func84,Tryz.ntmps84
   go_upto_region 1 with fail
   obtain⟨w1,hw1⟩:=Xq (w.alloc (.cells EE 40))
   rw[← hw1]
   obtain⟨g,hg⟩:=Xq (w.heap.size)
   rw[← hg]
   have HE:=Hd (show ED w1 g 7 0 0 (c:Int) d 0 0 (.slice ao 0 cap) by rw[hw1,hg,HEE.out];exact ED.box w 7 0 0 (c:Int) d 0 0 (.slice ao 0 cap) rfl 40)
   have HB:=Hd (show Below w.heap.size w w1 by rw[hw1];exact below_box _ _)
   clear hw1 hg HEE
   obtain⟨e0,e1,e2,e3,e4,e5,e6,e7,ef⟩:=HE.out
   go_upto_region 2 with fail
   go_cut [4] from 7 (fun v4 wx=>(∃ t,v4=.bool t)∧wx=w1)
   case first=>
    go_wp2_with fail
    all_goals go_meet
    all_goals exact⟨⟨_,rfl⟩,rfl⟩
   obtain⟨⟨t4,rfl⟩,rfl⟩:=hcut
   go_wp2_with fail
   refine(within_yes d (-2147483647) _ hw1 hw2).mono ?_
   rintro e w' ⟨rfl,rfl⟩
   go_wp2_with fail
   go_ret
   exact⟨by rw[HR2.out];first |rfl |exact ret_bool (by simp[HD0.out]),HB.out⟩
  ·obtain⟨EE,hEE⟩:=Xq (edC 8 0 0 (c:Int) d 0 0 (.slice ao 0 cap))
   rw[← hEE]
   have HEE:=Hd hEE
   clear hEE
   go_enter Tryz.func84,Tryz.ntmps84
   go_upto_region 1 with fail
   obtain⟨w1,hw1⟩:=Xq (w.alloc (.cells EE 40))
   rw[← hw1]
   obtain⟨g,hg⟩:=Xq (w.heap.size)
   rw[← hg]
   have HE:=Hd (show ED w1 g 8 0 0 (c:Int) d 0 0 (.slice ao 0 cap) by rw[hw1,hg,HEE.out];exact ED.box w 8 0 0 (c:Int) d 0 0 (.slice ao 0 cap) rfl 40)
   have HB:=Hd (show Below w.heap.size w w1 by rw[hw1];exact below_box _ _)
   clear hw1 hg HEE
   obtain⟨e0,e1,e2,e3,e4,e5,e6,e7,ef⟩:=HE.out
   go_upto_region 2 with fail
   go_cut [4] from 7 (fun v4 wx=>(∃ t,v4=.bool t)∧wx=w1)
   case first=>
    go_wp2_with fail
    all_goals go_meet
    all_goals exact⟨⟨_,rfl⟩,rfl⟩
   obtain⟨⟨t4,rfl⟩,rfl⟩:=hcut
   go_wp2_with fail
   refine(within_yes d (-2147483647) _ hw1 hw2).mono ?_
   rintro e w' ⟨rfl,rfl⟩
   go_wp2_with fail
   go_ret
   exact⟨by rw[HR2.out];first |rfl |exact ret_bool (by simp[HD0.out]),HB.out⟩
  obtain⟨EE,hEE⟩:=Xq (edC 9 0 0 (c:Int) d 0 0 (.slice ao 0 cap))
  rw[← hEE]
  have HEE:=Hd hEE
  clear hEE
  go_enter Tryz.func84,Tryz.ntmps84
  go_upto_region 1 with fail
  obtain⟨w1,hw1⟩:=Xq (w.alloc (.cells EE 40))
  rw[← hw1]
  obtain⟨g,hg⟩:=Xq (w.heap.size)
  rw[← hg]
  have HE:=Hd (show ED w1 g 9 0 0 (c:Int) d 0 0 (.slice ao 0 cap) by rw[hw1,hg,HEE.out];exact ED.box w 9 0 0 (c:Int) d 0 0 (.slice ao 0 cap) rfl 40)
  have HB:=Hd (show Below w.heap.size w w1 by rw[hw1];exact below_box _ _)
  clear hw1 hg HEE
  obtain⟨e0,e1,e2,e3,e4,e5,e6,e7,ef⟩:=HE.out
  go_upto_region 2 with fail
  go_cut [4] from 7 (fun v4 wx=>(∃ t,v4=.bool t)∧wx=w1)
  case first=>
   go_wp2_with fail
   all_goals go_meet
   all_goals exact⟨⟨_,rfl⟩,rfl⟩
  obtain⟨⟨t4,rfl⟩,rfl⟩:=hcut
  go_wp2_with fail
  refine(within_yes d (-2147483647) _ hw1 hw2).mono ?_
  rintro e w' ⟨rfl,rfl⟩
  go_wp2_with fail
  go_ret
  exact⟨by rw[HR2.out];first |rfl |exact ret_bool (by simp[HD0.out]),HB.out⟩
 have HR2:=Hd (show r=false by rw[HR.out];exact decide_eq_false (fun h=>hw h.2))
 have hw':d < -2147483647∨2147483647<d:=by omega
 have HWN:=Hd hw'
 clear HR hw hw'
 rcases hk5 with rfl |rfl |rfl |rfl |rfl
 ·obtain⟨EE,hEE⟩:=Xq (edC 5 0 0 (c:Int) d 0 0 (.slice ao 0 cap))
  rw[← hEE]
  have HEE:=Hd hEE
  clear hEE
  go_enter Tryz.func84,Tryz.ntmps84
  go_upto_region 1 with fail
  obtain⟨w1,hw1⟩:=Xq (w.alloc (.cells EE 40))
  rw[← hw1]
  obtain⟨g,hg⟩:=Xq (w.heap.size)
  rw[← hg]
  have HE:=Hd (show ED w1 g 5 0 0 (c:Int) d 0 0 (.slice ao 0 cap) by rw[hw1,hg,HEE.out];exact ED.box w 5 0 0 (c:Int) d 0 0 (.slice ao 0 cap) rfl 40)
  have HB:=Hd (show Below w.heap.size w w1 by rw[hw1];exact below_box _ _)
  clear hw1 hg HEE
  obtain⟨e0,e1,e2,e3,e4,e5,e6,e7,ef⟩:=HE.out
  go_upto_region 2 with fail
  go_cut [4] from 7 (fun v4 wx=>(∃ t,v4=.bool t)∧wx=w1)
  case first=>
   go_wp2_with fail
   all_goals go_meet
   all_goals exact⟨⟨_,rfl⟩,rfl⟩
  obtain⟨⟨t4,rfl⟩,rfl⟩:=hcut
  go_wp2_with fail
  refine(within_no d (-2147483647) _ HWN.out).mono ?_
  rintro e w' ⟨rfl,rfl⟩
  go_wp2_with fail
  go_ret
  exact⟨by rw[HR2.out];first |rfl |exact ret_bool (by simp[HD0.out]),HB.out⟩
 ·obtain⟨EE,hEE⟩:=Xq (edC 6 0 0 (c:Int) d 0 0 (.slice ao 0 cap))
  rw[← hEE]
  have HEE:=Hd hEE
  clear hEE
  go_enter Tryz.func84,Tryz.ntmps84
  go_upto_region 1 with fail
  obtain⟨w1,hw1⟩:=Xq (w.alloc (.cells EE 40))
  rw[← hw1]
  obtain⟨g,hg⟩:=Xq (w.heap.size)
  rw[← hg]
  have HE:=Hd (show ED w1 g 6 0 0 (c:Int) d 0 0 (.slice ao 0 cap) by rw[hw1,hg,HEE.out];exact ED.box w 6 0 0 (c:Int) d 0 0 (.slice ao 0 cap) rfl 40)
  have HB:=Hd (show Below w.heap.size w w1 by rw[hw1];exact below_box _ _)
  clear hw1 hg HEE
  obtain⟨e0,e1,e2,e3,e4,e5,e6,e7,ef⟩:=HE.out
  go_upto_region 2 with fail
  go_cut [4] from 7 (fun v4 wx=>(∃ t,v4=.bool t)∧wx=w1)
  case first=>
   go_wp2_with fail
   all_goals go_meet
   all_goals exact⟨⟨_,rfl⟩,rfl⟩
  obtain⟨⟨t4,rfl⟩,rfl⟩:=hcut
  go_wp2_with fail
  refine(within_no d (-2147483647) _ HWN.out).mono ?_
  rintro e w' ⟨rfl,rfl⟩
  go_wp2_with fail
  go_ret
  exact⟨by rw[HR2.out];first |rfl |exact ret_bool (by simp[HD0.out]),HB.out⟩
 ·obtain⟨EE,hEE⟩:=Xq (edC 7 0 0 (c:Int) d 0 0 (.slice ao 0 cap))
  rw[← hEE]
  have HEE:=Hd hEE
  clear hEE
  go_enter Tryz.func84,Tryz.ntmps84
  go_upto_region 1 with fail
  obtain⟨w1,hw1⟩:=Xq (w.alloc (.cells EE 40))
  rw[← hw1]
  obtain⟨g,hg⟩:=Xq (w.heap.size)
  rw[← hg]
  have HE:=Hd (show ED w1 g 7 0 0 (c:Int) d 0 0 (.slice ao 0 cap) by rw[hw1,hg,HEE.out];exact ED.box w 7 0 0 (c:Int) d 0 0 (.slice ao 0 cap) rfl 40)
  have HB:=Hd (show Below w.heap.size w w1 by rw[hw1];exact below_box _ _)
  clear hw1 hg HEE
  obtain⟨e0,e1,e2,e3,e4,e5,e6,e7,ef⟩:=HE.out
  go_upto_region 2 with fail
  go_cut [4] from 7 (fun v4 wx=>(∃ t,v4=.bool t)∧wx=w1)
  case first=>
   go_wp2_with fail
   all_goals go_meet
   all_goals exact⟨⟨_,rfl⟩,rfl⟩
  obtain⟨⟨t4,rfl⟩,rfl⟩:=hcut
  go_wp2_with fail
  refine(within_no d (-2147483647) _ HWN.out).mono ?_
  rintro e w' ⟨rfl,rfl⟩
  go_wp2_with fail
  go_ret
  exact⟨by rw[HR2.out];first |rfl |exact ret_bool (by simp[HD0.out]),HB.out⟩
 ·obtain⟨EE,hEE⟩:=Xq (edC 8 0 0 (c:Int) d 0 0 (.slice ao 0 cap))
  rw[← hEE]
  have HEE:=Hd hEE
  clear hEE
  go_enter Tryz.func84,Tryz.ntmps84
  go_upto_region 1 with fail
  obtain⟨w1,hw1⟩:=Xq (w.alloc (.cells EE 40))
  rw[← hw1]
  obtain⟨g,hg⟩:=Xq (w.heap.size)
  rw[← hg]
  have HE:=Hd (show ED w1 g 8 0 0 (c:Int) d 0 0 (.slice ao 0 cap) by rw[hw1,hg,HEE.out];exact ED.box w 8 0 0 (c:Int) d 0 0 (.slice ao 0 cap) rfl 40)
  have HB:=Hd (show Below w.heap.size w w1 by rw[hw1];exact below_box _ _)
  clear hw1 hg HEE
  obtain⟨e0,e1,e2,e3,e4,e5,e6,e7,ef⟩:=HE.out
  go_upto_region 2 with fail
  go_cut [4] from 7 (fun v4 wx=>(∃ t,v4=.bool t)∧wx=w1)
  case first=>
   go_wp2_with fail
   all_goals go_meet
   all_goals exact⟨⟨_,rfl⟩,rfl⟩
  obtain⟨⟨t4,rfl⟩,rfl⟩:=hcut
  go_wp2_with fail
  refine(within_no d (-2147483647) _ HWN.out).mono ?_
  rintro e w' ⟨rfl,rfl⟩
  go_wp2_with fail
  go_ret
  exact⟨by rw[HR2.out];first |rfl |exact ret_bool (by simp[HD0.out]),HB.out⟩
 obtain⟨EE,hEE⟩:=Xq (edC 9 0 0 (c:Int) d 0 0 (.slice ao 0 cap))
 rw[← hEE]
 have HEE:=Hd hEE
 clear hEE
 go_enter Tryz.func84,Tryz.ntmps84
 go_upto_region 1 with fail
 obtain⟨w1,hw1⟩:=Xq (w.alloc (.cells EE 40))
 rw[← hw1]
 obtain⟨g,hg⟩:=Xq (w.heap.size)
 rw[← hg]
 have HE:=Hd (show ED w1 g 9 0 0 (c:Int) d 0 0 (.slice ao 0 cap) by rw[hw1,hg,HEE.out];exact ED.box w 9 0 0 (c:Int) d 0 0 (.slice ao 0 cap) rfl 40)
 have HB:=Hd (show Below w.heap.size w w1 by rw[hw1];exact below_box _ _)
 clear hw1 hg HEE
 obtain⟨e0,e1,e2,e3,e4,e5,e6,e7,ef⟩:=HE.out
 go_upto_region 2 with fail
 go_cut [4] from 7 (fun v4 wx=>(∃ t,v4=.bool t)∧wx=w1)
 case first=>
  go_wp2_with fail
  all_goals go_meet
  all_goals exact⟨⟨_,rfl⟩,rfl⟩
 obtain⟨⟨t4,rfl⟩,rfl⟩:=hcut
 go_wp2_with fail
 refine(within_no d (-2147483647) _ HWN.out).mono ?_
 rintro e w' ⟨rfl,rfl⟩
 go_wp2_with fail
 go_ret
 exact⟨by rw[HR2.out];first |rfl |exact ret_bool (by simp[HD0.out]),HB.out⟩
theorem valid_ret (c:Nat) (sn sd:Int) (ao:Option Addr) (cap:Nat) (w:World) (hc:c≤1048576) (hs:SpeedOK sn sd) :
  Calls Tryz.prog 84 #[edV 10 0 0 (c:Int) 0 sn sd (.slice ao 0 cap)] w fun ev w'=>ev=.returned (.bool true)∧Below w.heap.size w w':=by
 have hc0:(0:Int)≤(c:Int):=by omega
 have hd0:=hs.d0
 have hd1:sd≤6006:=Int.le_of_dvd (by decide) hs.d
 have hsn:-18018≤sn∧sn≤18018:=by
  have h1:=hs.v0
  have h2:=hs.v1
  have hq:1≤6006 / sd:=by
   have h3:=Int.ediv_mul_cancel hs.d
   rcases Int.lt_or_le 0 (6006 / sd) with h |h
   ·omega
   have:=Int.mul_nonneg (show 0≤-(6006 / sd) by omega) (show 0≤sd by omega)
   rw[Int.neg_mul]at this
   omega
  obtain⟨q,hq2⟩:=Xq (6006 / sd)
  rw[← hq2]at h1 h2 hq
  rcases Int.le_total 0 sn with h |h
  ·have:=Int.mul_le_mul_of_nonneg_left hq h
   omega
  have:=Int.mul_le_mul_of_nonneg_left hq (show 0≤-sn by omega)
  rw[Int.neg_mul,Int.neg_mul]at this
  omega
 have HV:=Hd (fun w=>valid_any sn sd w (by omega) (by omega) (by omega) (by omega))
 have HVR:=Hd (show validR sn sd=true by unfold validR;simp[hs.g,hd0];omega)
 have HSD:=Hd hd0
 have hsd:(sd==0)=false:=by simp;omega
 unfold edV
 clear hs hsn hd1
 obtain⟨EE,hEE⟩:=Xq (edC 10 0 0 (c:Int) 0 sn sd (.slice ao 0 cap))
 rw[← hEE]
 have HEE:=Hd hEE
 clear hEE
 go_enter Tryz.func84,Tryz.ntmps84
 go_upto_region 1 with fail
 obtain⟨w1,hw1⟩:=Xq (w.alloc (.cells EE 40))
 rw[← hw1]
 obtain⟨g,hg⟩:=Xq (w.heap.size)
 rw[← hg]
 have HE:=Hd (show ED w1 g 10 0 0 (c:Int) 0 sn sd (.slice ao 0 cap) by rw[hw1,hg,HEE.out];exact ED.box w 10 0 0 (c:Int) 0 sn sd (.slice ao 0 cap) rfl 40)
 have HB:=Hd (show Below w.heap.size w w1 by rw[hw1];exact below_box _ _)
 clear hw1 hg HEE
 obtain⟨e0,e1,e2,e3,e4,e5,e6,e7,ef⟩:=HE.out
 go_upto_region 2 with fail
 go_cut [4] from 7 (fun v4 wx=>(∃ t,v4=.bool t)∧wx=w1)
 case first=>
  go_wp2_with fail
  all_goals go_meet
  all_goals exact⟨⟨_,rfl⟩,rfl⟩
 obtain⟨⟨t4,rfl⟩,rfl⟩:=hcut
 go_wp2_with fail
 refine(HV.out _).mono ?_
 rintro e w2 ⟨rfl,hb⟩
 rw[HVR.out]
 have HB2:=Tb HB hb
 clear hb e0 e1 e2 e3 e4 e5 e6 e7 ef
 go_wp2_with fail
 go_ret
 exact⟨rfl,HB2.out⟩
end Go.Proofs.YtfoohocgdcgbcaaGreat
