/- Texts of this claim joined: AJ AW AX HJ TN HK HL HM. -/
import Derived.Test.YtfoohocgdcgbcaaGreatMe18
import Derived.Test.YtfoohocgdcgbcaaGreatSq
set_option linter.unusedVariables false
set_option linter.unusedSimpArgs false
set_option maxRecDepth 100000
set_option maxHeartbeats 40000000
namespace Go.Proofs.YtfoohocgdcgbcaaGreat
open Go.RowKit
theorem clipB_no {c:Trk.Clip} {l:List Int} (h:headB c l=false∨bodyB c l=false):clipB c l=false:=by
 unfold clipB;rcases h with h |h<;>rw[h]<;>simp
theorem srcB_black:srcB Trk.black=true:=srcB_yes (.inl rfl)
theorem rshares_at (k:Int) (r:Bool) (h:decide (k=2∨k=3)=r) (w:World):Calls Tryz.prog 137 #[.int .i64 k] w fun e w'=>e=.returned (.bool r)∧w'=w:=by
 subst h;exact(rshares_all k w).mono fun e w' h=>⟨h.1,h.2.symm⟩
theorem rclip_01 (c:Trk.Clip) (x:Value) (l:List Int) (w:World) (hi:IT w x l) (ha:InS c.a) (hb:InS c.b) (hln:c.text.size<9223372036854775808) (hkk:c.kind≠2∧c.kind≠3∧c.kind≠4∧c.kind≠5) :
  Calls Tryz.prog 95 #[clipGV c x] w fun e w'=>e=.returned (.bool (clipB c l))∧Below w.heap.size w w':=by
 have HSA:=Hd (fun w=>rsource_all c.a w ha)
 have HSB:=Hd (fun w=>rsource_all c.b w hb)
 have HBA:=Hd (fun w=>rblack_any c.a w)
 have HBB:=Hd (fun w=>rblack_any c.b w)
 have HT:=Hd (fun w=>rline_all c.text w hln)
 simp only[srcV,srcC]at HSA HSB HBA HBB
 have HKK:=Hd hkk
 clear hkk
 obtain⟨sa,hsa⟩:=Xq (srcB c.a)
 obtain⟨sb,hsb⟩:=Xq (srcB c.b)
 rw[← hsa]at HSA
 rw[← hsb]at HSB
 obtain⟨ba,hba⟩:=Xq (decide (c.a=Trk.black))
 obtain⟨bb,hbb⟩:=Xq (decide (c.b=Trk.black))
 rw[← hba]at HBA
 rw[← hbb]at HBB
 obtain⟨R,hR⟩:=Xq (clipB c l)
 rw[← hR]
 obtain⟨nt,hnt⟩:=Xq (decide (c.text=ByteArray.empty))
 obtain⟨lt,hlt⟩:=Xq (lineB c.text)
 rw[← hlt]at HT
 have HR:=Hd hR
 have EA:=Hd hsa
 have EB:=Hd hsb
 have LA:=Hd hba
 have LB:=Hd hbb
 have HNT:=Hd hnt
 have HLT:=Hd hlt
 obtain⟨ao,cp,hx,hc1,hc2,hcell⟩:=hi
 have HCL:=Hd hcell
 have HCH:=Hd (show chansB l=chansB l from rfl)
 obtain⟨n,hn⟩:=Xq (l.length)
 rw[← hn]at hx hc1
 have HN:=Hd hn
 have hm:n≤9223372036854775807:=Nat.le_trans hc1 (Nat.le_trans hc2 (by decide))
 subst hx
 clear hR hsa hsb hba hbb hnt hlt hcell hn hln ha hb hc2
 unfold clipGV
 obtain⟨C,hC⟩:=Xq ((clipG c (.slice ao n cp)).toArray)
 rw[← hC]
 have HC:=Hd hC
 clear hC
 go_enter Tryz.func95,Tryz.ntmps95
 go_upto_region 1 with fail
 obtain⟨w1,hw1⟩:=Xq (w.alloc (.cells C 48))
 rw[← hw1]
 rw[HC.out]at hw1
 have hx:GV w1 w.heap.size c (.slice ao n cp):=by rw[hw1];exact GV.box w c (.slice ao n cp) 48
 have hb1:Below w.heap.size w w1:=by rw[hw1];exact below_box _ _
 obtain⟨g,hg⟩:=Xq (w.heap.size)
 replace HCL:Hid (∀ (i:Nat) (c:Int),l[i]?=some c→∃ b o,ao=some ⟨b,o,none⟩∧b<w1.heap.size∧w1.cell? ⟨b,o+i,none⟩=some (.int .i64 c)):=Hd (fun i c hi=>by
  obtain⟨b,o,e2,hl,hc⟩:=HCL.out i c hi
  exact⟨b,o,e2,Nat.lt_of_lt_of_le hl hb1.size,(hb1.cell hl).trans hc⟩)
 rw[← hg]at hx ⊢
 have BW:=Hd hb1
 have HX:=Hd hx
 clear hw1 hb1 hg hx HC
 by_cases h1:1≤c.len
 rotate_left
 ·have HRR:Hid (R=false):=Hd (by rw[HR.out];refine clipB_no (.inl ?_);unfold headB;rw[decide_eq_false h1];simp)
  obtain⟨x0,x1,x2,x3,x4,x5,x6,x7,x8,x9,x10,x11,x12,x13,x14,x15,x16,x17,x18,x19,x20,x21⟩:=HX.out.c.at0
  go_wp2_with fail
  go_ret
  exact⟨ret_bool (HRR.out).symm,BW.out⟩
 by_cases h2:c.len≤2147483647
 rotate_left
 ·have HRR:Hid (R=false):=Hd (by rw[HR.out];refine clipB_no (.inl ?_);unfold headB;rw[decide_eq_false h2];simp)
  obtain⟨x0,x1,x2,x3,x4,x5,x6,x7,x8,x9,x10,x11,x12,x13,x14,x15,x16,x17,x18,x19,x20,x21⟩:=HX.out.c.at0
  go_wp2_with fail
  go_ret
  exact⟨ret_bool (HRR.out).symm,BW.out⟩
 by_cases k1:0≤c.kind
 rotate_left
 ·have HRR:Hid (R=false):=Hd (by rw[HR.out];refine clipB_no (.inr ?_);unfold bodyB tailB;rw[if_neg (by omega),if_neg (by omega),if_neg (by omega),if_neg (by omega),if_neg (by omega),if_neg (by omega)])
  obtain⟨x0,x1,x2,x3,x4,x5,x6,x7,x8,x9,x10,x11,x12,x13,x14,x15,x16,x17,x18,x19,x20,x21⟩:=HX.out.c.at0
  go_wp2_with fail
  go_ret
  exact⟨ret_bool (HRR.out).symm,BW.out⟩
 by_cases k2:c.kind≤5
 rotate_left
 ·have HRR:Hid (R=false):=Hd (by rw[HR.out];refine clipB_no (.inr ?_);unfold bodyB tailB;rw[if_neg (by omega),if_neg (by omega),if_neg (by omega),if_neg (by omega),if_neg (by omega),if_neg (by omega)])
  obtain⟨x0,x1,x2,x3,x4,x5,x6,x7,x8,x9,x10,x11,x12,x13,x14,x15,x16,x17,x18,x19,x20,x21⟩:=HX.out.c.at0
  go_wp2_with fail
  go_ret
  exact⟨ret_bool (HRR.out).symm,BW.out⟩
 by_cases h3:0≤c.gain
 rotate_left
 ·have HRR:Hid (R=false):=Hd (by rw[HR.out];refine clipB_no (.inl ?_);unfold headB;rw[decide_eq_false h3];simp)
  obtain⟨x0,x1,x2,x3,x4,x5,x6,x7,x8,x9,x10,x11,x12,x13,x14,x15,x16,x17,x18,x19,x20,x21⟩:=HX.out.c.at0
  go_wp2_with fail
  go_ret
  exact⟨ret_bool (HRR.out).symm,BW.out⟩
 by_cases h4:c.gain≤65536
 rotate_left
 ·have HRR:Hid (R=false):=Hd (by rw[HR.out];refine clipB_no (.inl ?_);unfold headB;rw[decide_eq_false h4];simp)
  obtain⟨x0,x1,x2,x3,x4,x5,x6,x7,x8,x9,x10,x11,x12,x13,x14,x15,x16,x17,x18,x19,x20,x21⟩:=HX.out.c.at0
  go_wp2_with fail
  go_ret
  exact⟨ret_bool (HRR.out).symm,BW.out⟩
 by_cases h5:n≤4
 rotate_left
 ·have HRR:Hid (R=false):=Hd (by rw[HR.out];refine clipB_no (.inl ?_);unfold headB;rw[chansB_no (fun h=>h5 (by rw[HN.out];exact h.1))];simp)
  obtain⟨x0,x1,x2,x3,x4,x5,x6,x7,x8,x9,x10,x11,x12,x13,x14,x15,x16,x17,x18,x19,x20,x21⟩:=HX.out.c.at0
  go_wp2_with fail
  go_ret
  exact⟨ret_bool (HRR.out).symm,BW.out⟩
 obtain⟨x0,x1,x2,x3,x4,x5,x6,x7,x8,x9,x10,x11,x12,x13,x14,x15,x16,x17,x18,x19,x20,x21⟩:=HX.out.c.at0
 have HK1:=Hd (⟨k1,k2⟩:0≤c.kind∧c.kind≤5)
 have hH:=decide_eq_true h1
 have HD:=Hd (⟨h1,h2,h3,h4⟩:1≤c.len∧c.len≤2147483647∧0≤c.gain∧c.gain≤65536)
 clear hH
 go_wp2_with fail
 clear k1 k2 h3 h4 x0 x1 x2 x3 x4 x5 x6 x7 x8 x9 x10 x11 x12 x13 x14 x15 x16 x17 x18 x19 x20 x21
 replace HX:=HX
 go_loopw [3] (fun i wr=>∃ k:Nat,k≤n∧i=.int .i64 (k:Int)∧(∀ (j:Nat) (c:Int),l[j]?=some c→j<k→-1≤c∧c≤3)∧wr=w1) (fun i _=>n-(intOf i).toNat)
 case atStart=>exact⟨0,Nat.zero_le _,rfl,fun j c _ h=>absurd h (Nat.not_lt_zero j),rfl⟩
 case round =>
  obtain⟨k,hk,rfl,hL,hwr⟩:=hrel
  have hwr2:=hwr.symm
  subst hwr2
  have HL:=Hd hL
  clear hL
  by_cases hlt:k<n
  ·have hlt':(k:Int)<(n:Int):=by omega
   obtain⟨ch,hc⟩:∃ ch,l[k]?=some ch:=⟨l[k]'(by rw[← HN.out];omega),List.getElem?_eq_getElem (by rw[← HN.out];omega)⟩
   obtain⟨b,q,rfl,hb,hcl⟩:=HCL.out k ch hc
   have Hc:=Hd hc
   clear hc
   obtain⟨x0,x1,x2,x3,x4,x5,x6,x7,x8,x9,x10,x11,x12,x13,x14,x15,x16,x17,x18,x19,x20,x21⟩:=HX.out.c.at0
   clear x0 x1 x2 x3 x4 x5 x6 x7 x8 x9 x10 x11 x12 x13 x14 x15 x16 x17 x18 x19 x20
   by_cases c0:-1≤ch
   rotate_left
   ·have HRR:Hid (R=false):=Hd (by rw[HR.out];refine clipB_no (.inl ?_);unfold headB;rw[chansB_no (fun h=>c0 (h.2 k ch Hc.out).1)];simp)
    go_wp2_with fail
    go_ret
    exact⟨ret_bool (HRR.out).symm,BW.out⟩
   by_cases c1:ch≤3
   rotate_left
   ·have HRR:Hid (R=false):=Hd (by rw[HR.out];refine clipB_no (.inl ?_);unfold headB;rw[chansB_no (fun h=>c1 (h.2 k ch Hc.out).2)];simp)
    go_wp2_with fail
    go_ret
    exact⟨ret_bool (HRR.out).symm,BW.out⟩
   go_wp2_with fail
   go_roundw
   case rel=>exact⟨k+1,by omega,by simp,fun j c2 hj hk2=>by
      rcases Nat.lt_or_ge j k with h |h
      ·exact HL.out j c2 hj h
      have e:j=k:=by omega
      subst e
      have e2:=Option.some.inj (hj.symm.trans Hc.out)
      omega,by simp⟩
   case measure=>
    show n-(intOf (.int .i64 ((k:Int)+1))).toNat<n-(intOf (.int .i64 (k:Int))).toNat
    simp[intOf]
    omega
  have hkl:n=k:=by omega
  subst hkl
  have hch:=chansB_yes (l:=l) ⟨by rw[← HN.out];exact h5,fun i c hi=>HL.out i c hi (by
   have:=(List.getElem?_eq_some_iff.mp hi).1
   rw[HN.out];omega)⟩
  have HCHY:=Hd hch
  clear hch HL HCL
  rcases(show c.kind=0∨c.kind=1 by have:=HK1.out;have:=HKK.out;omega) with hk' |hk'
  ·have HK:=Hd hk'
   clear hk' HK1
   obtain⟨x0,x1,x2,x3,x4,x5,x6,x7,x8,x9,x10,x11,x12,x13,x14,x15,x16,x17,x18,x19,x20,x21⟩:=HX.out.c.at0
   rw[HK.out]at x1
   go_upto_region 8 with fail
   go_quiet (first
    |(go_at_call 137;exact Calls.quiet_of_same (rshares_at 0 false (by decide) _)))
   go_upto_region 9 with fail
   obtain⟨w4,hw4⟩:=Xq (w1.drewN nq)
   rw[← hw4]
   have hb:Below w1.heap.size w1 w4:=by rw[hw4];exact below_drewN (Below.refl _ _) _
   replace HX:=Hd (HX.out.below hb)
   replace BW:=Tb BW hb
   clear hb hw4 x0 x1 x2 x3 x4 x5 x6 x7 x8 x9 x10 x11 x12 x13 x14 x15 x16 x17 x18 x19 x20 x21
   obtain⟨x0,x1,x2,x3,x4,x5,x6,x7,x8,x9,x10,x11,x12,x13,x14,x15,x16,x17,x18,x19,x20,x21⟩:=HX.out.c.at0
   rw[HK.out]at x1
   go_wp2_with fail
   refine(HBA.out _).mono ?_
   rintro e w5 ⟨rfl,hb⟩
   replace HX:=Hd (HX.out.below hb)
   replace BW:=Tb BW hb
   clear hb x0 x1 x2 x3 x4 x5 x6 x7 x8 x9 x10 x11 x12 x13 x14 x15 x16 x17 x18 x19 x20 x21
   cases hv:ba with
   |false=>
    have HRR:Hid (R=false):=Hd (by rw[HR.out];refine clipB_no (.inr ?_);unfold bodyB tailB;have:=of_decide_eq_false (LA.out.symm.trans hv);simp[HK.out,this])
    clear hv
    obtain⟨x0,x1,x2,x3,x4,x5,x6,x7,x8,x9,x10,x11,x12,x13,x14,x15,x16,x17,x18,x19,x20,x21⟩:=HX.out.c.at0
    rw[HK.out]at x1
    go_wp2_with fail
    go_ret
    exact⟨ret_bool (HRR.out).symm,BW.out⟩
   |true=>
   have FA:=Hd (of_decide_eq_true (LA.out.symm.trans hv))
   clear hv
   obtain⟨x0,x1,x2,x3,x4,x5,x6,x7,x8,x9,x10,x11,x12,x13,x14,x15,x16,x17,x18,x19,x20,x21⟩:=HX.out.c.at0
   rw[HK.out]at x1
   go_wp2_with fail
   refine(HBB.out _).mono ?_
   rintro e w6 ⟨rfl,hb⟩
   replace HX:=Hd (HX.out.below hb)
   replace BW:=Tb BW hb
   clear hb x0 x1 x2 x3 x4 x5 x6 x7 x8 x9 x10 x11 x12 x13 x14 x15 x16 x17 x18 x19 x20 x21
   cases hv:bb with
   |false=>
    have HRR:Hid (R=false):=Hd (by rw[HR.out];refine clipB_no (.inr ?_);unfold bodyB tailB;have:=of_decide_eq_false (LB.out.symm.trans hv);simp[HK.out,this])
    clear hv
    obtain⟨x0,x1,x2,x3,x4,x5,x6,x7,x8,x9,x10,x11,x12,x13,x14,x15,x16,x17,x18,x19,x20,x21⟩:=HX.out.c.at0
    rw[HK.out]at x1
    go_wp2_with fail
    go_ret
    exact⟨ret_bool (HRR.out).symm,BW.out⟩
   |true=>
   have FB:=Hd (of_decide_eq_true (LB.out.symm.trans hv))
   clear hv
   by_cases t1:c.gain=0
   rotate_left
   ·have HRR:Hid (R=false):=Hd (by rw[HR.out];refine clipB_no (.inr ?_);unfold bodyB tailB;simp[HK.out,t1])
    have gt1:(c.gain != 0)=true:=by simp[t1]
    obtain⟨x0,x1,x2,x3,x4,x5,x6,x7,x8,x9,x10,x11,x12,x13,x14,x15,x16,x17,x18,x19,x20,x21⟩:=HX.out.c.at0
    rw[HK.out]at x1
    go_wp2_with fail
    go_ret
    exact⟨ret_bool (HRR.out).symm,BW.out⟩
   by_cases t2:n=0
   rotate_left
   ·have HRR:Hid (R=false):=Hd (by rw[HR.out];refine clipB_no (.inr ?_);unfold bodyB tailB;rw[← HN.out];simp[HK.out,t2])
    obtain⟨x0,x1,x2,x3,x4,x5,x6,x7,x8,x9,x10,x11,x12,x13,x14,x15,x16,x17,x18,x19,x20,x21⟩:=HX.out.c.at0
    rw[HK.out]at x1
    go_wp2_with fail
    go_ret
    exact⟨ret_bool (HRR.out).symm,BW.out⟩
   obtain⟨x0,x1,x2,x3,x4,x5,x6,x7,x8,x9,x10,x11,x12,x13,x14,x15,x16,x17,x18,x19,x20,x21⟩:=HX.out.c.at0
   rw[HK.out]at x1
   go_wp2_with fail
   refine(rshares_at 0 false (by decide) _).mono ?_
   rintro e w' ⟨rfl,rfl⟩
   clear x0 x1 x2 x3 x4 x5 x6 x7 x8 x9 x10 x11 x12 x13 x14 x15 x16 x17 x18 x19 x20 x21
   by_cases t3:c.off=0
   rotate_left
   ·have HRR:Hid (R=false):=Hd (by rw[HR.out];refine clipB_no (.inr ?_);unfold bodyB tailB;simp[HK.out,t3])
    have gt3:(c.off != 0)=true:=by simp[t3]
    obtain⟨x0,x1,x2,x3,x4,x5,x6,x7,x8,x9,x10,x11,x12,x13,x14,x15,x16,x17,x18,x19,x20,x21⟩:=HX.out.c.at0
    rw[HK.out]at x1
    go_wp2_with fail
    go_ret
    exact⟨ret_bool (HRR.out).symm,BW.out⟩
   by_cases t4:c.total=0
   rotate_left
   ·have HRR:Hid (R=false):=Hd (by rw[HR.out];refine clipB_no (.inr ?_);unfold bodyB tailB;simp[HK.out,t4])
    have gt4:(c.total != 0)=true:=by simp[t4]
    obtain⟨x0,x1,x2,x3,x4,x5,x6,x7,x8,x9,x10,x11,x12,x13,x14,x15,x16,x17,x18,x19,x20,x21⟩:=HX.out.c.at0
    rw[HK.out]at x1
    go_wp2_with fail
    go_ret
    exact⟨ret_bool (HRR.out).symm,BW.out⟩
   by_cases p1:0≤c.param
   rotate_left
   ·have HRR:Hid (R=false):=Hd (by rw[HR.out];refine clipB_no (.inr ?_);unfold bodyB tailB;simp[HK.out];intros;omega)
    obtain⟨x0,x1,x2,x3,x4,x5,x6,x7,x8,x9,x10,x11,x12,x13,x14,x15,x16,x17,x18,x19,x20,x21⟩:=HX.out.c.at0
    rw[HK.out]at x1
    go_wp2_with fail
    go_ret
    exact⟨ret_bool (HRR.out).symm,BW.out⟩
   by_cases p2:c.param≤0
   rotate_left
   ·have HRR:Hid (R=false):=Hd (by rw[HR.out];refine clipB_no (.inr ?_);unfold bodyB tailB;simp[HK.out];intros;omega)
    obtain⟨x0,x1,x2,x3,x4,x5,x6,x7,x8,x9,x10,x11,x12,x13,x14,x15,x16,x17,x18,x19,x20,x21⟩:=HX.out.c.at0
    rw[HK.out]at x1
    go_wp2_with fail
    go_ret
    exact⟨ret_bool (HRR.out).symm,BW.out⟩
   have p3:c.param=0:=by omega
   have HRR:Hid (R=nt):=Hd (by rw[HR.out];unfold clipB headB bodyB tailB;have hd:=HD.out;have fa:=FA.out;have fb:=FB.out;have hcy:=HCHY.out;have hn:=HN.out;simp[HK.out,hd.1,hd.2.1,hd.2.2.1,hd.2.2.2,hcy,fa,srcB_black,fb,srcB_black,p3,t1,← hn,t2,t3,t4,HNT.out])
   obtain⟨x0,x1,x2,x3,x4,x5,x6,x7,x8,x9,x10,x11,x12,x13,x14,x15,x16,x17,x18,x19,x20,x21⟩:=HX.out.c.at0
   rw[HK.out]at x1
   go_wp2_with fail
   go_ret
   refine⟨?_,BW.out⟩
   rw[HRR.out,← ret_nt HNT.out]
   rfl
  have HK:=Hd hk'
  clear hk' HK1
  obtain⟨x0,x1,x2,x3,x4,x5,x6,x7,x8,x9,x10,x11,x12,x13,x14,x15,x16,x17,x18,x19,x20,x21⟩:=HX.out.c.at0
  rw[HK.out]at x1
  go_upto_region 8 with fail
  go_quiet (first
   |(go_at_call 137;exact Calls.quiet_of_same (rshares_at 1 false (by decide) _)))
  go_upto_region 9 with fail
  obtain⟨w4,hw4⟩:=Xq (w1.drewN nq)
  rw[← hw4]
  have hb:Below w1.heap.size w1 w4:=by rw[hw4];exact below_drewN (Below.refl _ _) _
  replace HX:=Hd (HX.out.below hb)
  replace BW:=Tb BW hb
  clear hb hw4 x0 x1 x2 x3 x4 x5 x6 x7 x8 x9 x10 x11 x12 x13 x14 x15 x16 x17 x18 x19 x20 x21
  obtain⟨x0,x1,x2,x3,x4,x5,x6,x7,x8,x9,x10,x11,x12,x13,x14,x15,x16,x17,x18,x19,x20,x21⟩:=HX.out.c.at0
  rw[HK.out]at x1
  go_wp2_with fail
  refine(HSA.out _).mono ?_
  rintro e w5 ⟨rfl,hb⟩
  replace HX:=Hd (HX.out.below hb)
  replace BW:=Tb BW hb
  clear hb x0 x1 x2 x3 x4 x5 x6 x7 x8 x9 x10 x11 x12 x13 x14 x15 x16 x17 x18 x19 x20 x21
  cases hv:sa with
  |false=>
   have HRR:Hid (R=false):=Hd (by rw[HR.out];refine clipB_no (.inl ?_);unfold headB;rw[← EA.out,hv];simp)
   clear hv
   obtain⟨x0,x1,x2,x3,x4,x5,x6,x7,x8,x9,x10,x11,x12,x13,x14,x15,x16,x17,x18,x19,x20,x21⟩:=HX.out.c.at0
   rw[HK.out]at x1
   go_wp2_with fail
   go_ret
   exact⟨ret_bool (HRR.out).symm,BW.out⟩
  |true=>
  have FA:=Hd (EA.out.symm.trans hv)
  clear hv
  obtain⟨x0,x1,x2,x3,x4,x5,x6,x7,x8,x9,x10,x11,x12,x13,x14,x15,x16,x17,x18,x19,x20,x21⟩:=HX.out.c.at0
  rw[HK.out]at x1
  go_wp2_with fail
  refine(HBB.out _).mono ?_
  rintro e w6 ⟨rfl,hb⟩
  replace HX:=Hd (HX.out.below hb)
  replace BW:=Tb BW hb
  clear hb x0 x1 x2 x3 x4 x5 x6 x7 x8 x9 x10 x11 x12 x13 x14 x15 x16 x17 x18 x19 x20 x21
  cases hv:bb with
  |false=>
   have HRR:Hid (R=false):=Hd (by rw[HR.out];refine clipB_no (.inr ?_);unfold bodyB tailB;have:=of_decide_eq_false (LB.out.symm.trans hv);simp[HK.out,this])
   clear hv
   obtain⟨x0,x1,x2,x3,x4,x5,x6,x7,x8,x9,x10,x11,x12,x13,x14,x15,x16,x17,x18,x19,x20,x21⟩:=HX.out.c.at0
   rw[HK.out]at x1
   go_wp2_with fail
   go_ret
   exact⟨ret_bool (HRR.out).symm,BW.out⟩
  |true=>
  have FB:=Hd (of_decide_eq_true (LB.out.symm.trans hv))
  clear hv
  obtain⟨x0,x1,x2,x3,x4,x5,x6,x7,x8,x9,x10,x11,x12,x13,x14,x15,x16,x17,x18,x19,x20,x21⟩:=HX.out.c.at0
  rw[HK.out]at x1
  go_wp2_with fail
  refine(rshares_at 1 false (by decide) _).mono ?_
  rintro e w' ⟨rfl,rfl⟩
  clear x0 x1 x2 x3 x4 x5 x6 x7 x8 x9 x10 x11 x12 x13 x14 x15 x16 x17 x18 x19 x20 x21
  by_cases t3:c.off=0
  rotate_left
  ·have HRR:Hid (R=false):=Hd (by rw[HR.out];refine clipB_no (.inr ?_);unfold bodyB tailB;simp[HK.out,t3])
   have gt3:(c.off != 0)=true:=by simp[t3]
   obtain⟨x0,x1,x2,x3,x4,x5,x6,x7,x8,x9,x10,x11,x12,x13,x14,x15,x16,x17,x18,x19,x20,x21⟩:=HX.out.c.at0
   rw[HK.out]at x1
   go_wp2_with fail
   go_ret
   exact⟨ret_bool (HRR.out).symm,BW.out⟩
  by_cases t4:c.total=0
  rotate_left
  ·have HRR:Hid (R=false):=Hd (by rw[HR.out];refine clipB_no (.inr ?_);unfold bodyB tailB;simp[HK.out,t4])
   have gt4:(c.total != 0)=true:=by simp[t4]
   obtain⟨x0,x1,x2,x3,x4,x5,x6,x7,x8,x9,x10,x11,x12,x13,x14,x15,x16,x17,x18,x19,x20,x21⟩:=HX.out.c.at0
   rw[HK.out]at x1
   go_wp2_with fail
   go_ret
   exact⟨ret_bool (HRR.out).symm,BW.out⟩
  by_cases p1:0≤c.param
  rotate_left
  ·have HRR:Hid (R=false):=Hd (by rw[HR.out];refine clipB_no (.inr ?_);unfold bodyB tailB;simp[HK.out];intros;omega)
   obtain⟨x0,x1,x2,x3,x4,x5,x6,x7,x8,x9,x10,x11,x12,x13,x14,x15,x16,x17,x18,x19,x20,x21⟩:=HX.out.c.at0
   rw[HK.out]at x1
   go_wp2_with fail
   go_ret
   exact⟨ret_bool (HRR.out).symm,BW.out⟩
  by_cases p2:c.param≤0
  rotate_left
  ·have HRR:Hid (R=false):=Hd (by rw[HR.out];refine clipB_no (.inr ?_);unfold bodyB tailB;simp[HK.out];intros;omega)
   obtain⟨x0,x1,x2,x3,x4,x5,x6,x7,x8,x9,x10,x11,x12,x13,x14,x15,x16,x17,x18,x19,x20,x21⟩:=HX.out.c.at0
   rw[HK.out]at x1
   go_wp2_with fail
   go_ret
   exact⟨ret_bool (HRR.out).symm,BW.out⟩
  have p3:c.param=0:=by omega
  have HRR:Hid (R=nt):=Hd (by rw[HR.out];unfold clipB headB bodyB tailB;have hd:=HD.out;have fa:=FA.out;have fb:=FB.out;have hcy:=HCHY.out;simp[HK.out,hd.1,hd.2.1,hd.2.2.1,hd.2.2.2,hcy,fa,fb,srcB_black,p3,t3,t4,HNT.out])
  obtain⟨x0,x1,x2,x3,x4,x5,x6,x7,x8,x9,x10,x11,x12,x13,x14,x15,x16,x17,x18,x19,x20,x21⟩:=HX.out.c.at0
  rw[HK.out]at x1
  go_wp2_with fail
  go_ret
  refine⟨?_,BW.out⟩
  rw[HRR.out,← ret_nt HNT.out]
  rfl
theorem rclip_23 (c:Trk.Clip) (x:Value) (l:List Int) (w:World) (hi:IT w x l) (ha:InS c.a) (hb:InS c.b) (hln:c.text.size<9223372036854775808) (hkk:c.kind=2∨c.kind=3) :
  Calls Tryz.prog 95 #[clipGV c x] w fun e w'=>e=.returned (.bool (clipB c l))∧Below w.heap.size w w':=by
 have HSA:=Hd (fun w=>rsource_all c.a w ha)
 have HSB:=Hd (fun w=>rsource_all c.b w hb)
 have HBA:=Hd (fun w=>rblack_any c.a w)
 have HBB:=Hd (fun w=>rblack_any c.b w)
 have HT:=Hd (fun w=>rline_all c.text w hln)
 simp only[srcV,srcC]at HSA HSB HBA HBB
 have HKK:=Hd hkk
 clear hkk
 obtain⟨sa,hsa⟩:=Xq (srcB c.a)
 obtain⟨sb,hsb⟩:=Xq (srcB c.b)
 rw[← hsa]at HSA
 rw[← hsb]at HSB
 obtain⟨ba,hba⟩:=Xq (decide (c.a=Trk.black))
 obtain⟨bb,hbb⟩:=Xq (decide (c.b=Trk.black))
 rw[← hba]at HBA
 rw[← hbb]at HBB
 obtain⟨R,hR⟩:=Xq (clipB c l)
 rw[← hR]
 obtain⟨nt,hnt⟩:=Xq (decide (c.text=ByteArray.empty))
 obtain⟨lt,hlt⟩:=Xq (lineB c.text)
 rw[← hlt]at HT
 have HR:=Hd hR
 have EA:=Hd hsa
 have EB:=Hd hsb
 have LA:=Hd hba
 have LB:=Hd hbb
 have HNT:=Hd hnt
 have HLT:=Hd hlt
 obtain⟨ao,cp,hx,hc1,hc2,hcell⟩:=hi
 have HCL:=Hd hcell
 have HCH:=Hd (show chansB l=chansB l from rfl)
 obtain⟨n,hn⟩:=Xq (l.length)
 rw[← hn]at hx hc1
 have HN:=Hd hn
 have hm:n≤9223372036854775807:=Nat.le_trans hc1 (Nat.le_trans hc2 (by decide))
 subst hx
 clear hR hsa hsb hba hbb hnt hlt hcell hn hln ha hb hc2
 unfold clipGV
 obtain⟨C,hC⟩:=Xq ((clipG c (.slice ao n cp)).toArray)
 rw[← hC]
 have HC:=Hd hC
 clear hC
 go_enter Tryz.func95,Tryz.ntmps95
 go_upto_region 1 with fail
 obtain⟨w1,hw1⟩:=Xq (w.alloc (.cells C 48))
 rw[← hw1]
 rw[HC.out]at hw1
 have hx:GV w1 w.heap.size c (.slice ao n cp):=by rw[hw1];exact GV.box w c (.slice ao n cp) 48
 have hb1:Below w.heap.size w w1:=by rw[hw1];exact below_box _ _
 obtain⟨g,hg⟩:=Xq (w.heap.size)
 replace HCL:Hid (∀ (i:Nat) (c:Int),l[i]?=some c→∃ b o,ao=some ⟨b,o,none⟩∧b<w1.heap.size∧w1.cell? ⟨b,o+i,none⟩=some (.int .i64 c)):=Hd (fun i c hi=>by
  obtain⟨b,o,e2,hl,hc⟩:=HCL.out i c hi
  exact⟨b,o,e2,Nat.lt_of_lt_of_le hl hb1.size,(hb1.cell hl).trans hc⟩)
 rw[← hg]at hx ⊢
 have BW:=Hd hb1
 have HX:=Hd hx
 clear hw1 hb1 hg hx HC
 by_cases h1:1≤c.len
 rotate_left
 ·have HRR:Hid (R=false):=Hd (by rw[HR.out];refine clipB_no (.inl ?_);unfold headB;rw[decide_eq_false h1];simp)
  obtain⟨x0,x1,x2,x3,x4,x5,x6,x7,x8,x9,x10,x11,x12,x13,x14,x15,x16,x17,x18,x19,x20,x21⟩:=HX.out.c.at0
  go_wp2_with fail
  go_ret
  exact⟨ret_bool (HRR.out).symm,BW.out⟩
 by_cases h2:c.len≤2147483647
 rotate_left
 ·have HRR:Hid (R=false):=Hd (by rw[HR.out];refine clipB_no (.inl ?_);unfold headB;rw[decide_eq_false h2];simp)
  obtain⟨x0,x1,x2,x3,x4,x5,x6,x7,x8,x9,x10,x11,x12,x13,x14,x15,x16,x17,x18,x19,x20,x21⟩:=HX.out.c.at0
  go_wp2_with fail
  go_ret
  exact⟨ret_bool (HRR.out).symm,BW.out⟩
 by_cases k1:0≤c.kind
 rotate_left
 ·have HRR:Hid (R=false):=Hd (by rw[HR.out];refine clipB_no (.inr ?_);unfold bodyB tailB;rw[if_neg (by omega),if_neg (by omega),if_neg (by omega),if_neg (by omega),if_neg (by omega),if_neg (by omega)])
  obtain⟨x0,x1,x2,x3,x4,x5,x6,x7,x8,x9,x10,x11,x12,x13,x14,x15,x16,x17,x18,x19,x20,x21⟩:=HX.out.c.at0
  go_wp2_with fail
  go_ret
  exact⟨ret_bool (HRR.out).symm,BW.out⟩
 by_cases k2:c.kind≤5
 rotate_left
 ·have HRR:Hid (R=false):=Hd (by rw[HR.out];refine clipB_no (.inr ?_);unfold bodyB tailB;rw[if_neg (by omega),if_neg (by omega),if_neg (by omega),if_neg (by omega),if_neg (by omega),if_neg (by omega)])
  obtain⟨x0,x1,x2,x3,x4,x5,x6,x7,x8,x9,x10,x11,x12,x13,x14,x15,x16,x17,x18,x19,x20,x21⟩:=HX.out.c.at0
  go_wp2_with fail
  go_ret
  exact⟨ret_bool (HRR.out).symm,BW.out⟩
 by_cases h3:0≤c.gain
 rotate_left
 ·have HRR:Hid (R=false):=Hd (by rw[HR.out];refine clipB_no (.inl ?_);unfold headB;rw[decide_eq_false h3];simp)
  obtain⟨x0,x1,x2,x3,x4,x5,x6,x7,x8,x9,x10,x11,x12,x13,x14,x15,x16,x17,x18,x19,x20,x21⟩:=HX.out.c.at0
  go_wp2_with fail
  go_ret
  exact⟨ret_bool (HRR.out).symm,BW.out⟩
 by_cases h4:c.gain≤65536
 rotate_left
 ·have HRR:Hid (R=false):=Hd (by rw[HR.out];refine clipB_no (.inl ?_);unfold headB;rw[decide_eq_false h4];simp)
  obtain⟨x0,x1,x2,x3,x4,x5,x6,x7,x8,x9,x10,x11,x12,x13,x14,x15,x16,x17,x18,x19,x20,x21⟩:=HX.out.c.at0
  go_wp2_with fail
  go_ret
  exact⟨ret_bool (HRR.out).symm,BW.out⟩
 by_cases h5:n≤4
 rotate_left
 ·have HRR:Hid (R=false):=Hd (by rw[HR.out];refine clipB_no (.inl ?_);unfold headB;rw[chansB_no (fun h=>h5 (by rw[HN.out];exact h.1))];simp)
  obtain⟨x0,x1,x2,x3,x4,x5,x6,x7,x8,x9,x10,x11,x12,x13,x14,x15,x16,x17,x18,x19,x20,x21⟩:=HX.out.c.at0
  go_wp2_with fail
  go_ret
  exact⟨ret_bool (HRR.out).symm,BW.out⟩
 obtain⟨x0,x1,x2,x3,x4,x5,x6,x7,x8,x9,x10,x11,x12,x13,x14,x15,x16,x17,x18,x19,x20,x21⟩:=HX.out.c.at0
 have HK1:=Hd (⟨k1,k2⟩:0≤c.kind∧c.kind≤5)
 have hH:=decide_eq_true h1
 have HD:=Hd (⟨h1,h2,h3,h4⟩:1≤c.len∧c.len≤2147483647∧0≤c.gain∧c.gain≤65536)
 clear hH
 go_wp2_with fail
 clear k1 k2 h3 h4 x0 x1 x2 x3 x4 x5 x6 x7 x8 x9 x10 x11 x12 x13 x14 x15 x16 x17 x18 x19 x20 x21
 replace HX:=HX
 go_loopw [3] (fun i wr=>∃ k:Nat,k≤n∧i=.int .i64 (k:Int)∧(∀ (j:Nat) (c:Int),l[j]?=some c→j<k→-1≤c∧c≤3)∧wr=w1) (fun i _=>n-(intOf i).toNat)
 case atStart=>exact⟨0,Nat.zero_le _,rfl,fun j c _ h=>absurd h (Nat.not_lt_zero j),rfl⟩
 case round =>
  obtain⟨k,hk,rfl,hL,hwr⟩:=hrel
  have hwr2:=hwr.symm
  subst hwr2
  have HL:=Hd hL
  clear hL
  by_cases hlt:k<n
  ·have hlt':(k:Int)<(n:Int):=by omega
   obtain⟨ch,hc⟩:∃ ch,l[k]?=some ch:=⟨l[k]'(by rw[← HN.out];omega),List.getElem?_eq_getElem (by rw[← HN.out];omega)⟩
   obtain⟨b,q,rfl,hb,hcl⟩:=HCL.out k ch hc
   have Hc:=Hd hc
   clear hc
   obtain⟨x0,x1,x2,x3,x4,x5,x6,x7,x8,x9,x10,x11,x12,x13,x14,x15,x16,x17,x18,x19,x20,x21⟩:=HX.out.c.at0
   clear x0 x1 x2 x3 x4 x5 x6 x7 x8 x9 x10 x11 x12 x13 x14 x15 x16 x17 x18 x19 x20
   by_cases c0:-1≤ch
   rotate_left
   ·have HRR:Hid (R=false):=Hd (by rw[HR.out];refine clipB_no (.inl ?_);unfold headB;rw[chansB_no (fun h=>c0 (h.2 k ch Hc.out).1)];simp)
    go_wp2_with fail
    go_ret
    exact⟨ret_bool (HRR.out).symm,BW.out⟩
   by_cases c1:ch≤3
   rotate_left
   ·have HRR:Hid (R=false):=Hd (by rw[HR.out];refine clipB_no (.inl ?_);unfold headB;rw[chansB_no (fun h=>c1 (h.2 k ch Hc.out).2)];simp)
    go_wp2_with fail
    go_ret
    exact⟨ret_bool (HRR.out).symm,BW.out⟩
   go_wp2_with fail
   go_roundw
   case rel=>exact⟨k+1,by omega,by simp,fun j c2 hj hk2=>by
      rcases Nat.lt_or_ge j k with h |h
      ·exact HL.out j c2 hj h
      have e:j=k:=by omega
      subst e
      have e2:=Option.some.inj (hj.symm.trans Hc.out)
      omega,by simp⟩
   case measure=>
    show n-(intOf (.int .i64 ((k:Int)+1))).toNat<n-(intOf (.int .i64 (k:Int))).toNat
    simp[intOf]
    omega
  have hkl:n=k:=by omega
  subst hkl
  have hch:=chansB_yes (l:=l) ⟨by rw[← HN.out];exact h5,fun i c hi=>HL.out i c hi (by
   have:=(List.getElem?_eq_some_iff.mp hi).1
   rw[HN.out];omega)⟩
  have HCHY:=Hd hch
  clear hch HL HCL
  rcases(show c.kind=2∨c.kind=3 by have:=HK1.out;have:=HKK.out;omega) with hk' |hk'
  ·have HK:=Hd hk'
   clear hk' HK1
   obtain⟨x0,x1,x2,x3,x4,x5,x6,x7,x8,x9,x10,x11,x12,x13,x14,x15,x16,x17,x18,x19,x20,x21⟩:=HX.out.c.at0
   rw[HK.out]at x1
   go_upto_region 8 with fail
   go_quiet (first
    |(go_at_call 137;exact Calls.quiet_of_same (rshares_at 2 true (by decide) _)))
   go_upto_region 9 with fail
   obtain⟨w4,hw4⟩:=Xq (w1.drewN nq)
   rw[← hw4]
   have hb:Below w1.heap.size w1 w4:=by rw[hw4];exact below_drewN (Below.refl _ _) _
   replace HX:=Hd (HX.out.below hb)
   replace BW:=Tb BW hb
   clear hb hw4 x0 x1 x2 x3 x4 x5 x6 x7 x8 x9 x10 x11 x12 x13 x14 x15 x16 x17 x18 x19 x20 x21
   obtain⟨x0,x1,x2,x3,x4,x5,x6,x7,x8,x9,x10,x11,x12,x13,x14,x15,x16,x17,x18,x19,x20,x21⟩:=HX.out.c.at0
   rw[HK.out]at x1
   go_wp2_with fail
   refine(HSA.out _).mono ?_
   rintro e w5 ⟨rfl,hb⟩
   replace HX:=Hd (HX.out.below hb)
   replace BW:=Tb BW hb
   clear hb x0 x1 x2 x3 x4 x5 x6 x7 x8 x9 x10 x11 x12 x13 x14 x15 x16 x17 x18 x19 x20 x21
   cases hv:sa with
   |false=>
    have HRR:Hid (R=false):=Hd (by rw[HR.out];refine clipB_no (.inl ?_);unfold headB;rw[← EA.out,hv];simp)
    clear hv
    obtain⟨x0,x1,x2,x3,x4,x5,x6,x7,x8,x9,x10,x11,x12,x13,x14,x15,x16,x17,x18,x19,x20,x21⟩:=HX.out.c.at0
    rw[HK.out]at x1
    go_wp2_with fail
    go_ret
    exact⟨ret_bool (HRR.out).symm,BW.out⟩
   |true=>
   have FA:=Hd (EA.out.symm.trans hv)
   clear hv
   obtain⟨x0,x1,x2,x3,x4,x5,x6,x7,x8,x9,x10,x11,x12,x13,x14,x15,x16,x17,x18,x19,x20,x21⟩:=HX.out.c.at0
   rw[HK.out]at x1
   go_wp2_with fail
   refine(HSB.out _).mono ?_
   rintro e w6 ⟨rfl,hb⟩
   replace HX:=Hd (HX.out.below hb)
   replace BW:=Tb BW hb
   clear hb x0 x1 x2 x3 x4 x5 x6 x7 x8 x9 x10 x11 x12 x13 x14 x15 x16 x17 x18 x19 x20 x21
   cases hv:sb with
   |false=>
    have HRR:Hid (R=false):=Hd (by rw[HR.out];refine clipB_no (.inl ?_);unfold headB;rw[← EB.out,hv];simp)
    clear hv
    obtain⟨x0,x1,x2,x3,x4,x5,x6,x7,x8,x9,x10,x11,x12,x13,x14,x15,x16,x17,x18,x19,x20,x21⟩:=HX.out.c.at0
    rw[HK.out]at x1
    go_wp2_with fail
    go_ret
    exact⟨ret_bool (HRR.out).symm,BW.out⟩
   |true=>
   have FB:=Hd (EB.out.symm.trans hv)
   clear hv
   obtain⟨x0,x1,x2,x3,x4,x5,x6,x7,x8,x9,x10,x11,x12,x13,x14,x15,x16,x17,x18,x19,x20,x21⟩:=HX.out.c.at0
   rw[HK.out]at x1
   go_wp2_with fail
   refine(rshares_at 2 true (by decide) _).mono ?_
   rintro e w' ⟨rfl,rfl⟩
   clear x0 x1 x2 x3 x4 x5 x6 x7 x8 x9 x10 x11 x12 x13 x14 x15 x16 x17 x18 x19 x20 x21
   by_cases t3:0≤c.off
   rotate_left
   ·have HRR:Hid (R=false):=Hd (by rw[HR.out];refine clipB_no (.inr ?_);unfold bodyB tailB;simp[HK.out,t3])
    obtain⟨x0,x1,x2,x3,x4,x5,x6,x7,x8,x9,x10,x11,x12,x13,x14,x15,x16,x17,x18,x19,x20,x21⟩:=HX.out.c.at0
    rw[HK.out]at x1
    go_wp2_with fail
    go_ret
    exact⟨ret_bool (HRR.out).symm,BW.out⟩
   by_cases t4:0≤c.total
   rotate_left
   ·have HRR:Hid (R=false):=Hd (by rw[HR.out];refine clipB_no (.inr ?_);unfold bodyB tailB;simp[HK.out];intros;omega)
    obtain⟨x0,x1,x2,x3,x4,x5,x6,x7,x8,x9,x10,x11,x12,x13,x14,x15,x16,x17,x18,x19,x20,x21⟩:=HX.out.c.at0
    rw[HK.out]at x1
    go_wp2_with fail
    go_ret
    exact⟨ret_bool (HRR.out).symm,BW.out⟩
   by_cases t5:c.total≤2147483647
   rotate_left
   ·have HRR:Hid (R=false):=Hd (by rw[HR.out];refine clipB_no (.inr ?_);unfold bodyB tailB;simp[HK.out,t5])
    obtain⟨x0,x1,x2,x3,x4,x5,x6,x7,x8,x9,x10,x11,x12,x13,x14,x15,x16,x17,x18,x19,x20,x21⟩:=HX.out.c.at0
    rw[HK.out]at x1
    go_wp2_with fail
    go_ret
    exact⟨ret_bool (HRR.out).symm,BW.out⟩
   by_cases t6:c.off≤c.total-c.len
   rotate_left
   ·have HRR:Hid (R=false):=Hd (by rw[HR.out];refine clipB_no (.inr ?_);unfold bodyB tailB;simp[HK.out,t6])
    obtain⟨x0,x1,x2,x3,x4,x5,x6,x7,x8,x9,x10,x11,x12,x13,x14,x15,x16,x17,x18,x19,x20,x21⟩:=HX.out.c.at0
    rw[HK.out]at x1
    go_wp2_with fail
    go_ret
    exact⟨ret_bool (HRR.out).symm,BW.out⟩
   by_cases p1:0≤c.param
   rotate_left
   ·have HRR:Hid (R=false):=Hd (by rw[HR.out];refine clipB_no (.inr ?_);unfold bodyB tailB;simp[HK.out];intros;omega)
    obtain⟨x0,x1,x2,x3,x4,x5,x6,x7,x8,x9,x10,x11,x12,x13,x14,x15,x16,x17,x18,x19,x20,x21⟩:=HX.out.c.at0
    rw[HK.out]at x1
    go_wp2_with fail
    go_ret
    exact⟨ret_bool (HRR.out).symm,BW.out⟩
   by_cases p2:c.param≤0
   rotate_left
   ·have HRR:Hid (R=false):=Hd (by rw[HR.out];refine clipB_no (.inr ?_);unfold bodyB tailB;simp[HK.out];intros;omega)
    obtain⟨x0,x1,x2,x3,x4,x5,x6,x7,x8,x9,x10,x11,x12,x13,x14,x15,x16,x17,x18,x19,x20,x21⟩:=HX.out.c.at0
    rw[HK.out]at x1
    go_wp2_with fail
    go_ret
    exact⟨ret_bool (HRR.out).symm,BW.out⟩
   have p3:c.param=0:=by omega
   have HRR:Hid (R=nt):=Hd (by rw[HR.out];unfold clipB headB bodyB tailB;have hd:=HD.out;have fa:=FA.out;have fb:=FB.out;have hcy:=HCHY.out;have tl:c.len≤c.total:=(by omega);simp[HK.out,hd.1,hd.2.1,hd.2.2.1,hd.2.2.2,hcy,fa,fb,p3,t3,tl,t5,t6,HNT.out])
   obtain⟨x0,x1,x2,x3,x4,x5,x6,x7,x8,x9,x10,x11,x12,x13,x14,x15,x16,x17,x18,x19,x20,x21⟩:=HX.out.c.at0
   rw[HK.out]at x1
   go_wp2_with fail
   go_ret
   refine⟨?_,BW.out⟩
   rw[HRR.out,← ret_nt HNT.out]
   rfl
  have HK:=Hd hk'
  clear hk' HK1
  obtain⟨x0,x1,x2,x3,x4,x5,x6,x7,x8,x9,x10,x11,x12,x13,x14,x15,x16,x17,x18,x19,x20,x21⟩:=HX.out.c.at0
  rw[HK.out]at x1
  go_upto_region 8 with fail
  go_quiet (first
   |(go_at_call 137;exact Calls.quiet_of_same (rshares_at 3 true (by decide) _)))
  go_upto_region 9 with fail
  obtain⟨w4,hw4⟩:=Xq (w1.drewN nq)
  rw[← hw4]
  have hb:Below w1.heap.size w1 w4:=by rw[hw4];exact below_drewN (Below.refl _ _) _
  replace HX:=Hd (HX.out.below hb)
  replace BW:=Tb BW hb
  clear hb hw4 x0 x1 x2 x3 x4 x5 x6 x7 x8 x9 x10 x11 x12 x13 x14 x15 x16 x17 x18 x19 x20 x21
  obtain⟨x0,x1,x2,x3,x4,x5,x6,x7,x8,x9,x10,x11,x12,x13,x14,x15,x16,x17,x18,x19,x20,x21⟩:=HX.out.c.at0
  rw[HK.out]at x1
  go_wp2_with fail
  refine(HSA.out _).mono ?_
  rintro e w5 ⟨rfl,hb⟩
  replace HX:=Hd (HX.out.below hb)
  replace BW:=Tb BW hb
  clear hb x0 x1 x2 x3 x4 x5 x6 x7 x8 x9 x10 x11 x12 x13 x14 x15 x16 x17 x18 x19 x20 x21
  cases hv:sa with
  |false=>
   have HRR:Hid (R=false):=Hd (by rw[HR.out];refine clipB_no (.inl ?_);unfold headB;rw[← EA.out,hv];simp)
   clear hv
   obtain⟨x0,x1,x2,x3,x4,x5,x6,x7,x8,x9,x10,x11,x12,x13,x14,x15,x16,x17,x18,x19,x20,x21⟩:=HX.out.c.at0
   rw[HK.out]at x1
   go_wp2_with fail
   go_ret
   exact⟨ret_bool (HRR.out).symm,BW.out⟩
  |true=>
  have FA:=Hd (EA.out.symm.trans hv)
  clear hv
  obtain⟨x0,x1,x2,x3,x4,x5,x6,x7,x8,x9,x10,x11,x12,x13,x14,x15,x16,x17,x18,x19,x20,x21⟩:=HX.out.c.at0
  rw[HK.out]at x1
  go_wp2_with fail
  refine(HSB.out _).mono ?_
  rintro e w6 ⟨rfl,hb⟩
  replace HX:=Hd (HX.out.below hb)
  replace BW:=Tb BW hb
  clear hb x0 x1 x2 x3 x4 x5 x6 x7 x8 x9 x10 x11 x12 x13 x14 x15 x16 x17 x18 x19 x20 x21
  cases hv:sb with
  |false=>
   have HRR:Hid (R=false):=Hd (by rw[HR.out];refine clipB_no (.inl ?_);unfold headB;rw[← EB.out,hv];simp)
   clear hv
   obtain⟨x0,x1,x2,x3,x4,x5,x6,x7,x8,x9,x10,x11,x12,x13,x14,x15,x16,x17,x18,x19,x20,x21⟩:=HX.out.c.at0
   rw[HK.out]at x1
   go_wp2_with fail
   go_ret
   exact⟨ret_bool (HRR.out).symm,BW.out⟩
  |true=>
  have FB:=Hd (EB.out.symm.trans hv)
  clear hv
  obtain⟨x0,x1,x2,x3,x4,x5,x6,x7,x8,x9,x10,x11,x12,x13,x14,x15,x16,x17,x18,x19,x20,x21⟩:=HX.out.c.at0
  rw[HK.out]at x1
  go_wp2_with fail
  refine(rshares_at 3 true (by decide) _).mono ?_
  rintro e w' ⟨rfl,rfl⟩
  clear x0 x1 x2 x3 x4 x5 x6 x7 x8 x9 x10 x11 x12 x13 x14 x15 x16 x17 x18 x19 x20 x21
  by_cases t3:0≤c.off
  rotate_left
  ·have HRR:Hid (R=false):=Hd (by rw[HR.out];refine clipB_no (.inr ?_);unfold bodyB tailB;simp[HK.out,t3])
   obtain⟨x0,x1,x2,x3,x4,x5,x6,x7,x8,x9,x10,x11,x12,x13,x14,x15,x16,x17,x18,x19,x20,x21⟩:=HX.out.c.at0
   rw[HK.out]at x1
   go_wp2_with fail
   go_ret
   exact⟨ret_bool (HRR.out).symm,BW.out⟩
  by_cases t4:0≤c.total
  rotate_left
  ·have HRR:Hid (R=false):=Hd (by rw[HR.out];refine clipB_no (.inr ?_);unfold bodyB tailB;simp[HK.out];intros;omega)
   obtain⟨x0,x1,x2,x3,x4,x5,x6,x7,x8,x9,x10,x11,x12,x13,x14,x15,x16,x17,x18,x19,x20,x21⟩:=HX.out.c.at0
   rw[HK.out]at x1
   go_wp2_with fail
   go_ret
   exact⟨ret_bool (HRR.out).symm,BW.out⟩
  by_cases t5:c.total≤2147483647
  rotate_left
  ·have HRR:Hid (R=false):=Hd (by rw[HR.out];refine clipB_no (.inr ?_);unfold bodyB tailB;simp[HK.out,t5])
   obtain⟨x0,x1,x2,x3,x4,x5,x6,x7,x8,x9,x10,x11,x12,x13,x14,x15,x16,x17,x18,x19,x20,x21⟩:=HX.out.c.at0
   rw[HK.out]at x1
   go_wp2_with fail
   go_ret
   exact⟨ret_bool (HRR.out).symm,BW.out⟩
  by_cases t6:c.off≤c.total-c.len
  rotate_left
  ·have HRR:Hid (R=false):=Hd (by rw[HR.out];refine clipB_no (.inr ?_);unfold bodyB tailB;simp[HK.out,t6])
   obtain⟨x0,x1,x2,x3,x4,x5,x6,x7,x8,x9,x10,x11,x12,x13,x14,x15,x16,x17,x18,x19,x20,x21⟩:=HX.out.c.at0
   rw[HK.out]at x1
   go_wp2_with fail
   go_ret
   exact⟨ret_bool (HRR.out).symm,BW.out⟩
  by_cases p1:0≤c.param
  rotate_left
  ·have HRR:Hid (R=false):=Hd (by rw[HR.out];refine clipB_no (.inr ?_);unfold bodyB tailB;simp[HK.out,p1])
   obtain⟨x0,x1,x2,x3,x4,x5,x6,x7,x8,x9,x10,x11,x12,x13,x14,x15,x16,x17,x18,x19,x20,x21⟩:=HX.out.c.at0
   rw[HK.out]at x1
   go_wp2_with fail
   go_ret
   exact⟨ret_bool (HRR.out).symm,BW.out⟩
  by_cases p2:c.param≤3
  rotate_left
  ·have HRR:Hid (R=false):=Hd (by rw[HR.out];refine clipB_no (.inr ?_);unfold bodyB tailB;simp[HK.out,p2])
   obtain⟨x0,x1,x2,x3,x4,x5,x6,x7,x8,x9,x10,x11,x12,x13,x14,x15,x16,x17,x18,x19,x20,x21⟩:=HX.out.c.at0
   rw[HK.out]at x1
   go_wp2_with fail
   go_ret
   exact⟨ret_bool (HRR.out).symm,BW.out⟩
  have HRR:Hid (R=nt):=Hd (by rw[HR.out];unfold clipB headB bodyB tailB;have hd:=HD.out;have fa:=FA.out;have fb:=FB.out;have hcy:=HCHY.out;have tl:c.len≤c.total:=(by omega);simp[HK.out,hd.1,hd.2.1,hd.2.2.1,hd.2.2.2,hcy,fa,fb,p1,p2,t3,tl,t5,t6,HNT.out])
  obtain⟨x0,x1,x2,x3,x4,x5,x6,x7,x8,x9,x10,x11,x12,x13,x14,x15,x16,x17,x18,x19,x20,x21⟩:=HX.out.c.at0
  rw[HK.out]at x1
  go_wp2_with fail
  go_ret
  refine⟨?_,BW.out⟩
  rw[HRR.out,← ret_nt HNT.out]
  rfl
theorem rclip_45 (c:Trk.Clip) (x:Value) (l:List Int) (w:World) (hi:IT w x l) (ha:InS c.a) (hb:InS c.b) (hln:c.text.size<9223372036854775808) (hkk:c.kind=4∨c.kind=5) :
  Calls Tryz.prog 95 #[clipGV c x] w fun e w'=>e=.returned (.bool (clipB c l))∧Below w.heap.size w w':=by
 have HSA:=Hd (fun w=>rsource_all c.a w ha)
 have HSB:=Hd (fun w=>rsource_all c.b w hb)
 have HBA:=Hd (fun w=>rblack_any c.a w)
 have HBB:=Hd (fun w=>rblack_any c.b w)
 have HT:=Hd (fun w=>rline_all c.text w hln)
 simp only[srcV,srcC]at HSA HSB HBA HBB
 have HKK:=Hd hkk
 clear hkk
 obtain⟨sa,hsa⟩:=Xq (srcB c.a)
 obtain⟨sb,hsb⟩:=Xq (srcB c.b)
 rw[← hsa]at HSA
 rw[← hsb]at HSB
 obtain⟨ba,hba⟩:=Xq (decide (c.a=Trk.black))
 obtain⟨bb,hbb⟩:=Xq (decide (c.b=Trk.black))
 rw[← hba]at HBA
 rw[← hbb]at HBB
 obtain⟨R,hR⟩:=Xq (clipB c l)
 rw[← hR]
 obtain⟨nt,hnt⟩:=Xq (decide (c.text=ByteArray.empty))
 obtain⟨lt,hlt⟩:=Xq (lineB c.text)
 rw[← hlt]at HT
 have HR:=Hd hR
 have EA:=Hd hsa
 have EB:=Hd hsb
 have LA:=Hd hba
 have LB:=Hd hbb
 have HNT:=Hd hnt
 have HLT:=Hd hlt
 obtain⟨ao,cp,hx,hc1,hc2,hcell⟩:=hi
 have HCL:=Hd hcell
 have HCH:=Hd (show chansB l=chansB l from rfl)
 obtain⟨n,hn⟩:=Xq (l.length)
 rw[← hn]at hx hc1
 have HN:=Hd hn
 have hm:n≤9223372036854775807:=Nat.le_trans hc1 (Nat.le_trans hc2 (by decide))
 subst hx
 clear hR hsa hsb hba hbb hnt hlt hcell hn hln ha hb hc2
 unfold clipGV
 obtain⟨C,hC⟩:=Xq ((clipG c (.slice ao n cp)).toArray)
 rw[← hC]
 have HC:=Hd hC
 clear hC
 go_enter Tryz.func95,Tryz.ntmps95
 go_upto_region 1 with fail
 obtain⟨w1,hw1⟩:=Xq (w.alloc (.cells C 48))
 rw[← hw1]
 rw[HC.out]at hw1
 have hx:GV w1 w.heap.size c (.slice ao n cp):=by rw[hw1];exact GV.box w c (.slice ao n cp) 48
 have hb1:Below w.heap.size w w1:=by rw[hw1];exact below_box _ _
 obtain⟨g,hg⟩:=Xq (w.heap.size)
 replace HCL:Hid (∀ (i:Nat) (c:Int),l[i]?=some c→∃ b o,ao=some ⟨b,o,none⟩∧b<w1.heap.size∧w1.cell? ⟨b,o+i,none⟩=some (.int .i64 c)):=Hd (fun i c hi=>by
  obtain⟨b,o,e2,hl,hc⟩:=HCL.out i c hi
  exact⟨b,o,e2,Nat.lt_of_lt_of_le hl hb1.size,(hb1.cell hl).trans hc⟩)
 rw[← hg]at hx ⊢
 have BW:=Hd hb1
 have HX:=Hd hx
 clear hw1 hb1 hg hx HC
 by_cases h1:1≤c.len
 rotate_left
 ·have HRR:Hid (R=false):=Hd (by rw[HR.out];refine clipB_no (.inl ?_);unfold headB;rw[decide_eq_false h1];simp)
  obtain⟨x0,x1,x2,x3,x4,x5,x6,x7,x8,x9,x10,x11,x12,x13,x14,x15,x16,x17,x18,x19,x20,x21⟩:=HX.out.c.at0
  go_wp2_with fail
  go_ret
  exact⟨ret_bool (HRR.out).symm,BW.out⟩
 by_cases h2:c.len≤2147483647
 rotate_left
 ·have HRR:Hid (R=false):=Hd (by rw[HR.out];refine clipB_no (.inl ?_);unfold headB;rw[decide_eq_false h2];simp)
  obtain⟨x0,x1,x2,x3,x4,x5,x6,x7,x8,x9,x10,x11,x12,x13,x14,x15,x16,x17,x18,x19,x20,x21⟩:=HX.out.c.at0
  go_wp2_with fail
  go_ret
  exact⟨ret_bool (HRR.out).symm,BW.out⟩
 by_cases k1:0≤c.kind
 rotate_left
 ·have HRR:Hid (R=false):=Hd (by rw[HR.out];refine clipB_no (.inr ?_);unfold bodyB tailB;rw[if_neg (by omega),if_neg (by omega),if_neg (by omega),if_neg (by omega),if_neg (by omega),if_neg (by omega)])
  obtain⟨x0,x1,x2,x3,x4,x5,x6,x7,x8,x9,x10,x11,x12,x13,x14,x15,x16,x17,x18,x19,x20,x21⟩:=HX.out.c.at0
  go_wp2_with fail
  go_ret
  exact⟨ret_bool (HRR.out).symm,BW.out⟩
 by_cases k2:c.kind≤5
 rotate_left
 ·have HRR:Hid (R=false):=Hd (by rw[HR.out];refine clipB_no (.inr ?_);unfold bodyB tailB;rw[if_neg (by omega),if_neg (by omega),if_neg (by omega),if_neg (by omega),if_neg (by omega),if_neg (by omega)])
  obtain⟨x0,x1,x2,x3,x4,x5,x6,x7,x8,x9,x10,x11,x12,x13,x14,x15,x16,x17,x18,x19,x20,x21⟩:=HX.out.c.at0
  go_wp2_with fail
  go_ret
  exact⟨ret_bool (HRR.out).symm,BW.out⟩
 by_cases h3:0≤c.gain
 rotate_left
 ·have HRR:Hid (R=false):=Hd (by rw[HR.out];refine clipB_no (.inl ?_);unfold headB;rw[decide_eq_false h3];simp)
  obtain⟨x0,x1,x2,x3,x4,x5,x6,x7,x8,x9,x10,x11,x12,x13,x14,x15,x16,x17,x18,x19,x20,x21⟩:=HX.out.c.at0
  go_wp2_with fail
  go_ret
  exact⟨ret_bool (HRR.out).symm,BW.out⟩
 by_cases h4:c.gain≤65536
 rotate_left
 ·have HRR:Hid (R=false):=Hd (by rw[HR.out];refine clipB_no (.inl ?_);unfold headB;rw[decide_eq_false h4];simp)
  obtain⟨x0,x1,x2,x3,x4,x5,x6,x7,x8,x9,x10,x11,x12,x13,x14,x15,x16,x17,x18,x19,x20,x21⟩:=HX.out.c.at0
  go_wp2_with fail
  go_ret
  exact⟨ret_bool (HRR.out).symm,BW.out⟩
 by_cases h5:n≤4
 rotate_left
 ·have HRR:Hid (R=false):=Hd (by rw[HR.out];refine clipB_no (.inl ?_);unfold headB;rw[chansB_no (fun h=>h5 (by rw[HN.out];exact h.1))];simp)
  obtain⟨x0,x1,x2,x3,x4,x5,x6,x7,x8,x9,x10,x11,x12,x13,x14,x15,x16,x17,x18,x19,x20,x21⟩:=HX.out.c.at0
  go_wp2_with fail
  go_ret
  exact⟨ret_bool (HRR.out).symm,BW.out⟩
 obtain⟨x0,x1,x2,x3,x4,x5,x6,x7,x8,x9,x10,x11,x12,x13,x14,x15,x16,x17,x18,x19,x20,x21⟩:=HX.out.c.at0
 have HK1:=Hd (⟨k1,k2⟩:0≤c.kind∧c.kind≤5)
 have hH:=decide_eq_true h1
 have HD:=Hd (⟨h1,h2,h3,h4⟩:1≤c.len∧c.len≤2147483647∧0≤c.gain∧c.gain≤65536)
 clear hH
 go_wp2_with fail
 clear k1 k2 h3 h4 x0 x1 x2 x3 x4 x5 x6 x7 x8 x9 x10 x11 x12 x13 x14 x15 x16 x17 x18 x19 x20 x21
 replace HX:=HX
 go_loopw [3] (fun i wr=>∃ k:Nat,k≤n∧i=.int .i64 (k:Int)∧(∀ (j:Nat) (c:Int),l[j]?=some c→j<k→-1≤c∧c≤3)∧wr=w1) (fun i _=>n-(intOf i).toNat)
 case atStart=>exact⟨0,Nat.zero_le _,rfl,fun j c _ h=>absurd h (Nat.not_lt_zero j),rfl⟩
 case round =>
  obtain⟨k,hk,rfl,hL,hwr⟩:=hrel
  have hwr2:=hwr.symm
  subst hwr2
  have HL:=Hd hL
  clear hL
  by_cases hlt:k<n
  ·have hlt':(k:Int)<(n:Int):=by omega
   obtain⟨ch,hc⟩:∃ ch,l[k]?=some ch:=⟨l[k]'(by rw[← HN.out];omega),List.getElem?_eq_getElem (by rw[← HN.out];omega)⟩
   obtain⟨b,q,rfl,hb,hcl⟩:=HCL.out k ch hc
   have Hc:=Hd hc
   clear hc
   obtain⟨x0,x1,x2,x3,x4,x5,x6,x7,x8,x9,x10,x11,x12,x13,x14,x15,x16,x17,x18,x19,x20,x21⟩:=HX.out.c.at0
   clear x0 x1 x2 x3 x4 x5 x6 x7 x8 x9 x10 x11 x12 x13 x14 x15 x16 x17 x18 x19 x20
   by_cases c0:-1≤ch
   rotate_left
   ·have HRR:Hid (R=false):=Hd (by rw[HR.out];refine clipB_no (.inl ?_);unfold headB;rw[chansB_no (fun h=>c0 (h.2 k ch Hc.out).1)];simp)
    go_wp2_with fail
    go_ret
    exact⟨ret_bool (HRR.out).symm,BW.out⟩
   by_cases c1:ch≤3
   rotate_left
   ·have HRR:Hid (R=false):=Hd (by rw[HR.out];refine clipB_no (.inl ?_);unfold headB;rw[chansB_no (fun h=>c1 (h.2 k ch Hc.out).2)];simp)
    go_wp2_with fail
    go_ret
    exact⟨ret_bool (HRR.out).symm,BW.out⟩
   go_wp2_with fail
   go_roundw
   case rel=>exact⟨k+1,by omega,by simp,fun j c2 hj hk2=>by
      rcases Nat.lt_or_ge j k with h |h
      ·exact HL.out j c2 hj h
      have e:j=k:=by omega
      subst e
      have e2:=Option.some.inj (hj.symm.trans Hc.out)
      omega,by simp⟩
   case measure=>
    show n-(intOf (.int .i64 ((k:Int)+1))).toNat<n-(intOf (.int .i64 (k:Int))).toNat
    simp[intOf]
    omega
  have hkl:n=k:=by omega
  subst hkl
  have hch:=chansB_yes (l:=l) ⟨by rw[← HN.out];exact h5,fun i c hi=>HL.out i c hi (by
   have:=(List.getElem?_eq_some_iff.mp hi).1
   rw[HN.out];omega)⟩
  have HCHY:=Hd hch
  clear hch HL HCL
  rcases(show c.kind=4∨c.kind=5 by have:=HK1.out;have:=HKK.out;omega) with hk' |hk'
  ·have HK:=Hd hk'
   clear hk' HK1
   obtain⟨x0,x1,x2,x3,x4,x5,x6,x7,x8,x9,x10,x11,x12,x13,x14,x15,x16,x17,x18,x19,x20,x21⟩:=HX.out.c.at0
   rw[HK.out]at x1
   go_upto_region 8 with fail
   go_quiet (first
    |(go_at_call 137;exact Calls.quiet_of_same (rshares_at 4 false (by decide) _)))
   go_upto_region 9 with fail
   obtain⟨w4,hw4⟩:=Xq (w1.drewN nq)
   rw[← hw4]
   have hb:Below w1.heap.size w1 w4:=by rw[hw4];exact below_drewN (Below.refl _ _) _
   replace HX:=Hd (HX.out.below hb)
   replace BW:=Tb BW hb
   clear hb hw4 x0 x1 x2 x3 x4 x5 x6 x7 x8 x9 x10 x11 x12 x13 x14 x15 x16 x17 x18 x19 x20 x21
   obtain⟨x0,x1,x2,x3,x4,x5,x6,x7,x8,x9,x10,x11,x12,x13,x14,x15,x16,x17,x18,x19,x20,x21⟩:=HX.out.c.at0
   rw[HK.out]at x1
   go_wp2_with fail
   refine(HSA.out _).mono ?_
   rintro e w5 ⟨rfl,hb⟩
   replace HX:=Hd (HX.out.below hb)
   replace BW:=Tb BW hb
   clear hb x0 x1 x2 x3 x4 x5 x6 x7 x8 x9 x10 x11 x12 x13 x14 x15 x16 x17 x18 x19 x20 x21
   cases hv:sa with
   |false=>
    have HRR:Hid (R=false):=Hd (by rw[HR.out];refine clipB_no (.inl ?_);unfold headB;rw[← EA.out,hv];simp)
    clear hv
    obtain⟨x0,x1,x2,x3,x4,x5,x6,x7,x8,x9,x10,x11,x12,x13,x14,x15,x16,x17,x18,x19,x20,x21⟩:=HX.out.c.at0
    rw[HK.out]at x1
    go_wp2_with fail
    go_ret
    exact⟨ret_bool (HRR.out).symm,BW.out⟩
   |true=>
   have FA:=Hd (EA.out.symm.trans hv)
   clear hv
   obtain⟨x0,x1,x2,x3,x4,x5,x6,x7,x8,x9,x10,x11,x12,x13,x14,x15,x16,x17,x18,x19,x20,x21⟩:=HX.out.c.at0
   rw[HK.out]at x1
   go_wp2_with fail
   refine(HSB.out _).mono ?_
   rintro e w6 ⟨rfl,hb⟩
   replace HX:=Hd (HX.out.below hb)
   replace BW:=Tb BW hb
   clear hb x0 x1 x2 x3 x4 x5 x6 x7 x8 x9 x10 x11 x12 x13 x14 x15 x16 x17 x18 x19 x20 x21
   cases hv:sb with
   |false=>
    have HRR:Hid (R=false):=Hd (by rw[HR.out];refine clipB_no (.inl ?_);unfold headB;rw[← EB.out,hv];simp)
    clear hv
    obtain⟨x0,x1,x2,x3,x4,x5,x6,x7,x8,x9,x10,x11,x12,x13,x14,x15,x16,x17,x18,x19,x20,x21⟩:=HX.out.c.at0
    rw[HK.out]at x1
    go_wp2_with fail
    go_ret
    exact⟨ret_bool (HRR.out).symm,BW.out⟩
   |true=>
   have FB:=Hd (EB.out.symm.trans hv)
   clear hv
   obtain⟨x0,x1,x2,x3,x4,x5,x6,x7,x8,x9,x10,x11,x12,x13,x14,x15,x16,x17,x18,x19,x20,x21⟩:=HX.out.c.at0
   rw[HK.out]at x1
   go_wp2_with fail
   refine(rshares_at 4 false (by decide) _).mono ?_
   rintro e w' ⟨rfl,rfl⟩
   clear x0 x1 x2 x3 x4 x5 x6 x7 x8 x9 x10 x11 x12 x13 x14 x15 x16 x17 x18 x19 x20 x21
   by_cases t3:c.off=0
   rotate_left
   ·have HRR:Hid (R=false):=Hd (by rw[HR.out];refine clipB_no (.inr ?_);unfold bodyB tailB;simp[HK.out,t3])
    have gt3:(c.off != 0)=true:=by simp[t3]
    obtain⟨x0,x1,x2,x3,x4,x5,x6,x7,x8,x9,x10,x11,x12,x13,x14,x15,x16,x17,x18,x19,x20,x21⟩:=HX.out.c.at0
    rw[HK.out]at x1
    go_wp2_with fail
    go_ret
    exact⟨ret_bool (HRR.out).symm,BW.out⟩
   by_cases t4:c.total=0
   rotate_left
   ·have HRR:Hid (R=false):=Hd (by rw[HR.out];refine clipB_no (.inr ?_);unfold bodyB tailB;simp[HK.out,t4])
    have gt4:(c.total != 0)=true:=by simp[t4]
    obtain⟨x0,x1,x2,x3,x4,x5,x6,x7,x8,x9,x10,x11,x12,x13,x14,x15,x16,x17,x18,x19,x20,x21⟩:=HX.out.c.at0
    rw[HK.out]at x1
    go_wp2_with fail
    go_ret
    exact⟨ret_bool (HRR.out).symm,BW.out⟩
   by_cases p1:0≤c.param
   rotate_left
   ·have HRR:Hid (R=false):=Hd (by rw[HR.out];refine clipB_no (.inr ?_);unfold bodyB tailB;simp[HK.out,p1])
    obtain⟨x0,x1,x2,x3,x4,x5,x6,x7,x8,x9,x10,x11,x12,x13,x14,x15,x16,x17,x18,x19,x20,x21⟩:=HX.out.c.at0
    rw[HK.out]at x1
    go_wp2_with fail
    go_ret
    exact⟨ret_bool (HRR.out).symm,BW.out⟩
   by_cases p2:c.param≤255
   rotate_left
   ·have HRR:Hid (R=false):=Hd (by rw[HR.out];refine clipB_no (.inr ?_);unfold bodyB tailB;simp[HK.out,p2])
    obtain⟨x0,x1,x2,x3,x4,x5,x6,x7,x8,x9,x10,x11,x12,x13,x14,x15,x16,x17,x18,x19,x20,x21⟩:=HX.out.c.at0
    rw[HK.out]at x1
    go_wp2_with fail
    go_ret
    exact⟨ret_bool (HRR.out).symm,BW.out⟩
   have HRR:Hid (R=nt):=Hd (by rw[HR.out];unfold clipB headB bodyB tailB;have hd:=HD.out;have fa:=FA.out;have fb:=FB.out;have hcy:=HCHY.out;simp[HK.out,hd.1,hd.2.1,hd.2.2.1,hd.2.2.2,hcy,fa,fb,p1,p2,t3,t4,HNT.out])
   obtain⟨x0,x1,x2,x3,x4,x5,x6,x7,x8,x9,x10,x11,x12,x13,x14,x15,x16,x17,x18,x19,x20,x21⟩:=HX.out.c.at0
   rw[HK.out]at x1
   go_wp2_with fail
   go_ret
   refine⟨?_,BW.out⟩
   rw[HRR.out,← ret_nt HNT.out]
   rfl
  have HK:=Hd hk'
  clear hk' HK1
  obtain⟨x0,x1,x2,x3,x4,x5,x6,x7,x8,x9,x10,x11,x12,x13,x14,x15,x16,x17,x18,x19,x20,x21⟩:=HX.out.c.at0
  rw[HK.out]at x1
  go_upto_region 8 with fail
  go_quiet (first
   |(go_at_call 137;exact Calls.quiet_of_same (rshares_at 5 false (by decide) _)))
  go_upto_region 9 with fail
  obtain⟨w4,hw4⟩:=Xq (w1.drewN nq)
  rw[← hw4]
  have hb:Below w1.heap.size w1 w4:=by rw[hw4];exact below_drewN (Below.refl _ _) _
  replace HX:=Hd (HX.out.below hb)
  replace BW:=Tb BW hb
  clear hb hw4 x0 x1 x2 x3 x4 x5 x6 x7 x8 x9 x10 x11 x12 x13 x14 x15 x16 x17 x18 x19 x20 x21
  obtain⟨x0,x1,x2,x3,x4,x5,x6,x7,x8,x9,x10,x11,x12,x13,x14,x15,x16,x17,x18,x19,x20,x21⟩:=HX.out.c.at0
  rw[HK.out]at x1
  go_wp2_with fail
  refine(HSA.out _).mono ?_
  rintro e w5 ⟨rfl,hb⟩
  replace HX:=Hd (HX.out.below hb)
  replace BW:=Tb BW hb
  clear hb x0 x1 x2 x3 x4 x5 x6 x7 x8 x9 x10 x11 x12 x13 x14 x15 x16 x17 x18 x19 x20 x21
  cases hv:sa with
  |false=>
   have HRR:Hid (R=false):=Hd (by rw[HR.out];refine clipB_no (.inl ?_);unfold headB;rw[← EA.out,hv];simp)
   clear hv
   obtain⟨x0,x1,x2,x3,x4,x5,x6,x7,x8,x9,x10,x11,x12,x13,x14,x15,x16,x17,x18,x19,x20,x21⟩:=HX.out.c.at0
   rw[HK.out]at x1
   go_wp2_with fail
   go_ret
   exact⟨ret_bool (HRR.out).symm,BW.out⟩
  |true=>
  have FA:=Hd (EA.out.symm.trans hv)
  clear hv
  obtain⟨x0,x1,x2,x3,x4,x5,x6,x7,x8,x9,x10,x11,x12,x13,x14,x15,x16,x17,x18,x19,x20,x21⟩:=HX.out.c.at0
  rw[HK.out]at x1
  go_wp2_with fail
  refine(HBB.out _).mono ?_
  rintro e w6 ⟨rfl,hb⟩
  replace HX:=Hd (HX.out.below hb)
  replace BW:=Tb BW hb
  clear hb x0 x1 x2 x3 x4 x5 x6 x7 x8 x9 x10 x11 x12 x13 x14 x15 x16 x17 x18 x19 x20 x21
  cases hv:bb with
  |false=>
   have HRR:Hid (R=false):=Hd (by rw[HR.out];refine clipB_no (.inr ?_);unfold bodyB tailB;have:=of_decide_eq_false (LB.out.symm.trans hv);simp[HK.out,this])
   clear hv
   obtain⟨x0,x1,x2,x3,x4,x5,x6,x7,x8,x9,x10,x11,x12,x13,x14,x15,x16,x17,x18,x19,x20,x21⟩:=HX.out.c.at0
   rw[HK.out]at x1
   go_wp2_with fail
   go_ret
   exact⟨ret_bool (HRR.out).symm,BW.out⟩
  |true=>
  have FB:=Hd (of_decide_eq_true (LB.out.symm.trans hv))
  clear hv
  obtain⟨x0,x1,x2,x3,x4,x5,x6,x7,x8,x9,x10,x11,x12,x13,x14,x15,x16,x17,x18,x19,x20,x21⟩:=HX.out.c.at0
  rw[HK.out]at x1
  go_wp2_with fail
  refine(rshares_at 5 false (by decide) _).mono ?_
  rintro e w' ⟨rfl,rfl⟩
  clear x0 x1 x2 x3 x4 x5 x6 x7 x8 x9 x10 x11 x12 x13 x14 x15 x16 x17 x18 x19 x20 x21
  by_cases t3:c.off=0
  rotate_left
  ·have HRR:Hid (R=false):=Hd (by rw[HR.out];refine clipB_no (.inr ?_);unfold bodyB tailB;simp[HK.out,t3])
   have gt3:(c.off != 0)=true:=by simp[t3]
   obtain⟨x0,x1,x2,x3,x4,x5,x6,x7,x8,x9,x10,x11,x12,x13,x14,x15,x16,x17,x18,x19,x20,x21⟩:=HX.out.c.at0
   rw[HK.out]at x1
   go_wp2_with fail
   go_ret
   exact⟨ret_bool (HRR.out).symm,BW.out⟩
  by_cases t4:c.total=0
  rotate_left
  ·have HRR:Hid (R=false):=Hd (by rw[HR.out];refine clipB_no (.inr ?_);unfold bodyB tailB;simp[HK.out,t4])
   have gt4:(c.total != 0)=true:=by simp[t4]
   obtain⟨x0,x1,x2,x3,x4,x5,x6,x7,x8,x9,x10,x11,x12,x13,x14,x15,x16,x17,x18,x19,x20,x21⟩:=HX.out.c.at0
   rw[HK.out]at x1
   go_wp2_with fail
   go_ret
   exact⟨ret_bool (HRR.out).symm,BW.out⟩
  by_cases p1:0≤c.param
  rotate_left
  ·have HRR:Hid (R=false):=Hd (by rw[HR.out];refine clipB_no (.inr ?_);unfold bodyB tailB;simp[HK.out];intros;omega)
   obtain⟨x0,x1,x2,x3,x4,x5,x6,x7,x8,x9,x10,x11,x12,x13,x14,x15,x16,x17,x18,x19,x20,x21⟩:=HX.out.c.at0
   rw[HK.out]at x1
   go_wp2_with fail
   go_ret
   exact⟨ret_bool (HRR.out).symm,BW.out⟩
  by_cases p2:c.param≤0
  rotate_left
  ·have HRR:Hid (R=false):=Hd (by rw[HR.out];refine clipB_no (.inr ?_);unfold bodyB tailB;simp[HK.out];intros;omega)
   obtain⟨x0,x1,x2,x3,x4,x5,x6,x7,x8,x9,x10,x11,x12,x13,x14,x15,x16,x17,x18,x19,x20,x21⟩:=HX.out.c.at0
   rw[HK.out]at x1
   go_wp2_with fail
   go_ret
   exact⟨ret_bool (HRR.out).symm,BW.out⟩
  have p3:c.param=0:=by omega
  have HRR:Hid (R=lt):=Hd (by rw[HR.out];unfold clipB headB bodyB tailB;have hd:=HD.out;have fa:=FA.out;have fb:=FB.out;have hcy:=HCHY.out;simp[HK.out,hd.1,hd.2.1,hd.2.2.1,hd.2.2.2,hcy,fa,fb,srcB_black,p3,t3,t4,HLT.out])
  obtain⟨x0,x1,x2,x3,x4,x5,x6,x7,x8,x9,x10,x11,x12,x13,x14,x15,x16,x17,x18,x19,x20,x21⟩:=HX.out.c.at0
  rw[HK.out]at x1
  go_wp2_with fail
  refine(HT.out _).mono ?_
  rintro e w7 ⟨rfl,rfl⟩
  go_wp2_with fail
  go_ret
  exact⟨ret_bool (HRR.out).symm,BW.out⟩
theorem rclip_all (c:Trk.Clip) (x:Value) (l:List Int) (w:World) (hi:IT w x l) (ha:InS c.a) (hb:InS c.b) (hln:c.text.size<9223372036854775808) :
  Calls Tryz.prog 95 #[clipGV c x] w fun e w'=>e=.returned (.bool (clipB c l))∧Below w.heap.size w w':=by
 by_cases h1:c.kind=2∨c.kind=3
 ·exact rclip_23 c x l w hi ha hb hln h1
 by_cases h2:c.kind=4∨c.kind=5
 ·exact rclip_45 c x l w hi ha hb hln h2
 exact rclip_01 c x l w hi ha hb hln (by omega)
theorem clip_says:ClipSays 89:=fun c x w hI hC=>by
 cases h:headB c c.chan with
 |false=>rw[clipB_head h];exact vclip_no c x c.chan w hI hC.a hC.b h
 |true=>
  have e:clipB c c.chan=bodyB c c.chan:=by unfold clipB;rw[h];rfl
  rw[e]
  exact vclip_yes c x c.chan w hI hC.a hC.b h hC.t
theorem rclip_says:ClipSays 95:=fun c x w hI hC=>rclip_all c x c.chan w hI hC.a hC.b hC.t
theorem validR_gcd {n d:Int} (h:validR n d=true):1≤d∧n.natAbs.gcd d.toNat=1:=by
 unfold validR at h
 simp only[Bool.and_eq_true,decide_eq_true_eq,beq_iff_eq]at h
 exact⟨h.1.1,h.2⟩
theorem SrcOK.wide {s:Trk.Src} (h:SrcOK s):Trk.Wide 1099511627776 s:=by
 obtain⟨a0,a1⟩:=validR_gcd h.ra
 obtain⟨s0,s1⟩:=validR_gcd h.rs
 have p0:=h.a0
 have p1:=h.a1
 have q0:=h.s0
 have q1:=h.s1
 refine⟨⟨by rcases h.k with e |e<;>omega,a0,a1,s0,s1⟩,by omega,by omega,h.l⟩
theorem SrcOK.ins {s:Trk.Src} (h:SrcOK s):InS s:=by
 have b:=h.wide.bounds
 have:=h.n.m
 refine⟨by rcases h.k with e |e<;>omega,by rcases h.k with e |e<;>omega,by omega,by omega,by omega,by omega,by omega,by omega,by omega,by omega,by omega⟩
theorem black_ins:InS Trk.black:=by
 refine⟨by decide,by decide,by decide,by decide,by decide,by decide,by decide,by decide,by decide,by decide,by decide⟩
def SrcV (s:Trk.Src):Prop:=s=Trk.black∨SrcOK s
theorem SrcV.okw {s:Trk.Src} (h:SrcV s):Trk.OkW 1099511627776 s:=h.imp id SrcOK.wide
theorem SrcV.ins {s:Trk.Src} (h:SrcV s):InS s:=by
 rcases h with rfl |h
 ·exact black_ins
 exact h.ins
open Classical in
theorem srcB_iff {s:Trk.Src}:srcB s=true↔SrcV s:=by
 unfold srcB SrcV
 exact decide_eq_true_iff
def ShareOK (c:Trk.Clip):Prop:=0≤c.off∧c.len≤c.total∧c.total≤2147483647∧c.off≤c.total-c.len
def KG (c:Trk.Clip):Prop:=
 (c.kind=0∧c.a=Trk.black∧c.b=Trk.black∧c.off=0∧c.total=0∧c.param=0∧c.text=ByteArray.empty∧c.gain=0∧c.chan=[]) ∨
 (c.kind=1∧c.b=Trk.black∧c.off=0∧c.total=0∧c.param=0∧c.text=ByteArray.empty) ∨
 (c.kind=2∧ShareOK c∧c.param=0∧c.text=ByteArray.empty) ∨
 (c.kind=3∧ShareOK c∧0≤c.param∧c.param≤3∧c.text=ByteArray.empty) ∨
 (c.kind=4∧c.off=0∧c.total=0∧0≤c.param∧c.param≤255∧c.text=ByteArray.empty) ∨
 (c.kind=5∧c.b=Trk.black∧c.off=0∧c.total=0∧c.param=0∧TextP LC 64 c.text)
structure VG (c:Trk.Clip):Prop where
 l0:1≤c.len
 l1:c.len≤2147483647
 g0:0≤c.gain
 g1:c.gain≤65536
 ch:ChansP c.chan
 a:SrcV c.a
 b:SrcV c.b
 k:KG c
open Classical in
theorem clipB_iff {c:Trk.Clip}:clipB c c.chan=true↔VG c:=by
 unfold clipB headB
 simp only[Bool.and_eq_true,decide_eq_true_eq]
 have hch:chansB c.chan=true↔ChansP c.chan:=by unfold chansB;exact decide_eq_true_iff
 rw[hch,srcB_iff,srcB_iff]
 have hbody:bodyB c c.chan=true↔KG c:=by
  unfold bodyB tailB KG ShareOK
  have hl:lineB c.text=true↔TextP LC 64 c.text:=by unfold lineB;exact decide_eq_true_iff
  by_cases h0:c.kind=0
  ·rw[if_pos h0]
   simp only[Bool.and_eq_true,decide_eq_true_eq]
   constructor
   ·rintro⟨⟨⟨⟨⟨⟨h1,h2⟩,h3,h4⟩,h5⟩,h6⟩,h7⟩,h8⟩
    exact .inl ⟨h0,h1,h2,h3,h4,h5,h6,h7,List.length_eq_zero_iff.1 h8⟩
   rintro(⟨_,h1,h2,h3,h4,h5,h6,h7,h8⟩ |⟨h,_⟩ |⟨h,_⟩ |⟨h,_⟩ |⟨h,_⟩ |⟨h,_⟩)
   ·exact⟨⟨⟨⟨⟨⟨h1,h2⟩,h3,h4⟩,h5⟩,h6⟩,h7⟩,by rw[h8];rfl⟩
   all_goals omega
  rw[if_neg h0]
  by_cases h1:c.kind=1
  ·rw[if_pos h1]
   simp only[Bool.and_eq_true,decide_eq_true_eq]
   constructor
   ·rintro⟨⟨⟨h2,h3,h4⟩,h5⟩,h6⟩
    exact .inr (.inl ⟨h1,h2,h3,h4,h5,h6⟩)
   rintro(⟨h,_⟩ |⟨_,h2,h3,h4,h5,h6⟩ |⟨h,_⟩ |⟨h,_⟩ |⟨h,_⟩ |⟨h,_⟩)
   ·omega
   ·exact⟨⟨⟨h2,h3,h4⟩,h5⟩,h6⟩
   all_goals omega
  rw[if_neg h1]
  by_cases h2:c.kind=2
  ·rw[if_pos h2]
   simp only[Bool.and_eq_true,decide_eq_true_eq]
   constructor
   ·rintro⟨⟨⟨⟨⟨h3,h4⟩,h5⟩,h6⟩,h7⟩,h8⟩
    exact .inr (.inr (.inl ⟨h2,⟨h3,h4,h5,h6⟩,h7,h8⟩))
   rintro(⟨h,_⟩ |⟨h,_⟩ |⟨_,⟨h3,h4,h5,h6⟩,h7,h8⟩ |⟨h,_⟩ |⟨h,_⟩ |⟨h,_⟩)
   ·omega
   ·omega
   ·exact⟨⟨⟨⟨⟨h3,h4⟩,h5⟩,h6⟩,h7⟩,h8⟩
   all_goals omega
  rw[if_neg h2]
  by_cases h3:c.kind=3
  ·rw[if_pos h3]
   simp only[Bool.and_eq_true,decide_eq_true_eq]
   constructor
   ·rintro⟨⟨⟨⟨⟨⟨h4,h5⟩,h6⟩,h7⟩,h8⟩,h9⟩,h10⟩
    exact .inr (.inr (.inr (.inl ⟨h3,⟨h4,h5,h6,h7⟩,h8,h9,h10⟩)))
   rintro(⟨h,_⟩ |⟨h,_⟩ |⟨h,_⟩ |⟨_,⟨h4,h5,h6,h7⟩,h8,h9,h10⟩ |⟨h,_⟩ |⟨h,_⟩)
   ·omega
   ·omega
   ·omega
   ·exact⟨⟨⟨⟨⟨⟨h4,h5⟩,h6⟩,h7⟩,h8⟩,h9⟩,h10⟩
   all_goals omega
  rw[if_neg h3]
  by_cases h4:c.kind=4
  ·rw[if_pos h4]
   simp only[Bool.and_eq_true,decide_eq_true_eq]
   constructor
   ·rintro⟨⟨⟨⟨h5,h6⟩,h7⟩,h8⟩,h9⟩
    exact .inr (.inr (.inr (.inr (.inl ⟨h4,h5,h6,h7,h8,h9⟩))))
   rintro(⟨h,_⟩ |⟨h,_⟩ |⟨h,_⟩ |⟨h,_⟩ |⟨_,h5,h6,h7,h8,h9⟩ |⟨h,_⟩)
   ·omega
   ·omega
   ·omega
   ·omega
   ·exact⟨⟨⟨⟨h5,h6⟩,h7⟩,h8⟩,h9⟩
   omega
  rw[if_neg h4]
  by_cases h5:c.kind=5
  ·rw[if_pos h5]
   simp only[Bool.and_eq_true,decide_eq_true_eq]
   rw[hl]
   constructor
   ·rintro⟨⟨⟨h6,h7,h8⟩,h9⟩,h10⟩
    exact .inr (.inr (.inr (.inr (.inr ⟨h5,h6,h7,h8,h9,h10⟩))))
   rintro(⟨h,_⟩ |⟨h,_⟩ |⟨h,_⟩ |⟨h,_⟩ |⟨h,_⟩ |⟨_,h6,h7,h8,h9,h10⟩)
   all_goals first
    |omega
    |exact⟨⟨⟨h6,h7,h8⟩,h9⟩,h10⟩
  rw[if_neg h5]
  constructor
  ·intro h;cases h
  rintro(⟨h,_⟩ |⟨h,_⟩ |⟨h,_⟩ |⟨h,_⟩ |⟨h,_⟩ |⟨h,_⟩)<;>omega
 rw[hbody]
 constructor
 ·rintro⟨⟨⟨⟨⟨⟨⟨h1,h2⟩,h3⟩,h4⟩,h5⟩,h6⟩,h7⟩,h8⟩
  exact⟨h1,h2,h3,h4,h5,h6,h7,h8⟩
 rintro⟨h1,h2,h3,h4,h5,h6,h7,h8⟩
 exact⟨⟨⟨⟨⟨⟨⟨h1,h2⟩,h3⟩,h4⟩,h5⟩,h6⟩,h7⟩,h8⟩
theorem VG.good {c:Trk.Clip} (h:VG c):Trk.GoodC c:=by
 refine⟨h.l0,h.a.okw.okay,h.b.okw.okay,fun hk=>?_⟩
 rcases h.k with⟨h0,h1,h2,h3,h4,h5,h6,h7,h8⟩ |⟨h0,_⟩ |⟨h0,_⟩ |⟨h0,_⟩ |⟨h0,_⟩ |⟨h0,_⟩
 ·exact Trk.Clip.ext2 rfl hk h1 h2 h3 h4 h5 h6 h7 h8
 all_goals rw[hk]at h0;exact absurd h0 (by decide)
theorem VG.off {c:Trk.Clip} (h:VG c):0≤c.off∧c.off≤2147483647∧(Trk.shares c.kind=false→c.off=0)∧(Trk.shares c.kind=true→ShareOK c):=by
 have l0:=h.l0
 have hs:∀ k,(k=0∨k=1∨k=4∨k=5)→Trk.shares k=false:=by
  rintro k (rfl |rfl |rfl |rfl)<;>rfl
 have ht:∀ k,(k=2∨k=3)→Trk.shares k=true:=by
  rintro k (rfl |rfl)<;>rfl
 rcases h.k with⟨h0,_,_,h3,_⟩ |⟨h0,_,h3,_⟩ |⟨h0,⟨h3,h4,h5,h6⟩,_⟩ |⟨h0,⟨h3,h4,h5,h6⟩,_⟩ |⟨h0,h3,_⟩ |⟨h0,_,h3,_⟩
 ·exact⟨by omega,by omega,fun _=>h3,fun hh=>(by rw[hs _ (.inl h0)]at hh;cases hh)⟩
 ·exact⟨by omega,by omega,fun _=>h3,fun hh=>(by rw[hs _ (.inr (.inl h0))]at hh;cases hh)⟩
 ·exact⟨by omega,by omega,fun hh=>(by rw[ht _ (.inl h0)]at hh;cases hh),fun _=>⟨h3,h4,h5,h6⟩⟩
 ·exact⟨by omega,by omega,fun hh=>(by rw[ht _ (.inr h0)]at hh;cases hh),fun _=>⟨h3,h4,h5,h6⟩⟩
 ·exact⟨by omega,by omega,fun _=>h3,fun hh=>(by rw[hs _ (.inr (.inr (.inl h0)))]at hh;cases hh)⟩
 exact⟨by omega,by omega,fun _=>h3,fun hh=>(by rw[hs _ (.inr (.inr (.inr h0)))]at hh;cases hh)⟩
theorem VG.okg {c:Trk.Clip} (h:VG c):OkG c:=by
 have ho:=h.off
 have:=h.l1
 exact⟨h.good,h.a.okw.mono (by decide),h.b.okw.mono (by decide),h.ch.1,by omega,by omega⟩
theorem VG.text {c:Trk.Clip} (h:VG c):c.text.size≤64:=by
 rcases h.k with⟨_,_,_,_,_,_,e,_⟩ |⟨_,_,_,_,_,e⟩ |⟨_,_,_,e⟩ |⟨_,_,_,_,e⟩ |⟨_,_,_,_,_,e⟩ |⟨_,_,_,_,_,e⟩
 ·rw[e];decide
 ·rw[e];decide
 ·rw[e];decide
 ·rw[e];decide
 ·rw[e];decide
 exact e.m
theorem VG.inc {c:Trk.Clip} (h:VG c):InC c:=⟨h.a.ins,h.b.ins,by have:=h.text;omega⟩
structure TV (l:List Trk.Clip):Prop where
 n:l.length≤64
 c:∀ c∈l,VG c
 t:Trk.total l≤2147483647
open Classical in
theorem trackB_iff {l:List Trk.Clip}:trackB l=true↔TV l:=by
 unfold trackB
 rw[decide_eq_true_iff]
 constructor
 ·rintro⟨h1,h2,h3⟩
  refine⟨h1,fun c hc=>?_,h3⟩
  obtain⟨i,hi,e⟩:=List.getElem_of_mem hc
  exact clipB_iff.1 (h2 i c (by rw[List.getElem?_eq_getElem hi,e]))
 rintro⟨h1,h2,h3⟩
 exact⟨h1,fun i c hi=>clipB_iff.2 (h2 c (List.mem_of_getElem? hi)),h3⟩
theorem TV.good {l:List Trk.Clip} (h:TV l):Trk.GoodL l:=fun c hc=>(h.c c hc).good
theorem TV.okg {l:List Trk.Clip} (h:TV l):∀ c∈l,OkG c:=fun c hc=>(h.c c hc).okg
theorem TV.inc {l:List Trk.Clip} (h:TV l):∀ c∈l,InC c:=fun c hc=>(h.c c hc).inc
end Go.Proofs.YtfoohocgdcgbcaaGreat
namespace Go.Trk
theorem cut_len {l:List Clip} {a b:Int} (g:GoodL l) (h0:0≤a) (h1:a≤b) (h2:b≤total l):(cut l a b).length≤l.length:=
 Nat.le_trans (pk_of (cutRaw_spec (l:=l) (f:=a) (n:=b-a) g h0 (by omega)).1).n (cutRaw_len2 g h0 (by omega))
end Go.Trk
namespace Go.Proofs.YtfoohocgdcgbcaaGreat
open Go.RowKit
def PlOK (s:Trk.Src):Prop:=s=Trk.black∨(-(1099511627776*s.ad)≤s.an∧s.an≤1099511627776*s.ad)
theorem validR_of {n d:Int} (h0:1≤d) (h1:n.natAbs.gcd d.toNat=1) (h2:-9223372036854775808<n):validR n d=true:=by
 rw[validR_yes h0 h2,h1];rfl
theorem SrcV.moved {s:Trk.Src} (h:SrcV s) (n:Int) (hn:n.natAbs≤4294967296):SrcV (Trk.moved s n)↔PlOK (Trk.moved s n):=by
 rcases h with rfl |h
 ·rw[Trk.moved_black]
  exact⟨fun _=>.inl rfl,fun _=>.inl rfl⟩
 have hw:=h.wide.moved n hn
 have hne:=hw.g.ne
 have hb:=hw.bounds
 constructor
 ·rintro(h2 |h2)
  ·exact absurd h2 hne
  exact .inr ⟨h2.a0,h2.a1⟩
 rintro(h2 |⟨h2,h3⟩)
 ·exact absurd h2 hne
 obtain⟨e1,e2,e3⟩:=Trk.moved_sn s n
 refine .inr ⟨by rw[Trk.moved_kind];exact h.k,by rw[Trk.moved_name];exact h.n,validR_of hw.g.a0 hw.g.a1 (by omega),by rw[e1,e2];exact h.rs,h2,h3,by rw[e1,e2];exact h.s0,by rw[e1,e2];exact h.s1,hw.l⟩
theorem KG.piece {c:Trk.Clip} (h:VG c) {f m:Int} (hf:0≤f) (hm:1≤m) (hn:f+m≤c.len):KG (Trk.withLen (Trk.shift c f) m):=by
 have hs:∀ k,(k=0∨k=1∨k=4∨k=5)→Trk.shares k=false:=by
  rintro k (rfl |rfl |rfl |rfl)<;>rfl
 have ht:∀ k,(k=2∨k=3)→Trk.shares k=true:=by
  rintro k (rfl |rfl)<;>rfl
 have hk:=h.k
 unfold KG ShareOK Trk.withLen Trk.shift at *
 simp only
 rcases hk with⟨h0,h1,h2,h3⟩ |⟨h0,h2,h3⟩ |⟨h0,⟨o0,o1,o2,o3⟩,h3⟩ |⟨h0,⟨o0,o1,o2,o3⟩,h3⟩ |⟨h0,h3⟩ |⟨h0,h2,h3⟩
 ·rw[h1,h2,Trk.moved_black,hs _ (.inl h0)]
  exact .inl ⟨h0,rfl,rfl,h3⟩
 ·rw[h2,Trk.moved_black,hs _ (.inr (.inl h0))]
  exact .inr (.inl ⟨h0,rfl,h3⟩)
 ·rw[ht _ (.inl h0),if_pos rfl]
  exact .inr (.inr (.inl ⟨h0,⟨by omega,by omega,o2,by omega⟩,h3⟩))
 ·rw[ht _ (.inr h0),if_pos rfl]
  exact .inr (.inr (.inr (.inl ⟨h0,⟨by omega,by omega,o2,by omega⟩,h3⟩)))
 ·rw[hs _ (.inr (.inr (.inl h0)))]
  exact .inr (.inr (.inr (.inr (.inl ⟨h0,h3⟩))))
 rw[h2,Trk.moved_black,hs _ (.inr (.inr (.inr h0)))]
 exact .inr (.inr (.inr (.inr (.inr ⟨h0,rfl,h3⟩))))
theorem VG.piece {c:Trk.Clip} (h:VG c) {f m:Int} (hf:0≤f) (hm:1≤m) (hn:f+m≤c.len):VG (Trk.withLen (Trk.shift c f) m)↔PlOK (Trk.moved c.a f)∧PlOK (Trk.moved c.b f):=by
 have l1:=h.l1
 have ha:=h.a.moved f (by omega)
 have hb:=h.b.moved f (by omega)
 constructor
 ·intro k
  exact⟨ha.1 k.a,hb.1 k.b⟩
 rintro⟨p,q⟩
 exact⟨hm,show m≤2147483647 by omega,h.g0,h.g1,h.ch,ha.2 p,hb.2 q,KG.piece h hf hm hn⟩
theorem gap_vg {n:Int} (h0:1≤n) (h1:n≤2147483647):VG (Trk.gap n):=
 ⟨h0,h1,Int.le_refl _,(by decide:(0:Int)≤65536),⟨Nat.zero_le _,fun i c hi=>by simp[Trk.gap]at hi⟩,.inl rfl,.inl rfl,.inl ⟨rfl,rfl,rfl,rfl,rfl,rfl,rfl,rfl,rfl⟩⟩
theorem VG.join {p c:Trk.Clip} (h:VG p) (k:VG c) (hc:Trk.cont c p) (hl:p.len+c.len≤2147483647):VG (Trk.withLen p (p.len+c.len)):=by
 have l0:=h.l0
 have k0:=k.l0
 have e:=(cont_law k.good h.good).1 hc
 have ek:c.kind=p.kind:=by rw[e];rfl
 have et:c.total=p.total:=by rw[e];rfl
 have hh:=h.off
 have hk:=k.off
 have hsh:ShareOK p→Trk.shares p.kind=true→ShareOK (Trk.withLen p (p.len+c.len)):=by
  intro ho hs
  obtain⟨r0,r1,r2,r3⟩:=hk.2.2.2 (by rw[ek];exact hs)
  have eo:c.off=p.off+p.len:=by rw[e];show(if Trk.shares p.kind=true then p.off+p.len else p.off)=_;rw[if_pos hs]
  rw[eo,et]at r3
  obtain⟨o0,o1,o2,o3⟩:=ho
  refine⟨o0,?_,o2,?_⟩
  ·show p.len+c.len≤p.total
   omega
  show p.off≤p.total-(p.len+c.len)
  omega
 refine⟨show 1≤p.len+c.len by omega,hl,h.g0,h.g1,h.ch,h.a,h.b,?_⟩
 rcases h.k with h1 |h1 |⟨h0,o,h1⟩ |⟨h0,o,h1⟩ |h1 |h1
 ·exact .inl h1
 ·exact .inr (.inl h1)
 ·exact .inr (.inr (.inl ⟨h0,hsh o (by rw[h0];rfl),h1⟩))
 ·exact .inr (.inr (.inr (.inl ⟨h0,hsh o (by rw[h0];rfl),h1⟩)))
 ·exact .inr (.inr (.inr (.inr (.inl h1))))
 exact .inr (.inr (.inr (.inr (.inr h1))))
def VGL (l:List Trk.Clip):Prop:=∀ c∈l,VG c
theorem VGL.good {l:List Trk.Clip} (h:VGL l):Trk.GoodL l:=fun c hc=>(h c hc).good
theorem VGL.nil:VGL []:=fun c hc=>by cases hc
theorem VGL.cons {c:Trk.Clip} {l:List Trk.Clip} (h:VG c) (k:VGL l):VGL (c::l):=fun x hx=>by
 rcases List.mem_cons.1 hx with rfl |hx
 ·exact h
 exact k x hx
theorem VGL.append {l m:List Trk.Clip} (h:VGL l) (k:VGL m):VGL (l++m):=fun x hx=>(List.mem_append.1 hx).elim (h x) (k x)
theorem VGL.sub {l m:List Trk.Clip} (h:VGL l) (k:∀ c∈m,c∈l):VGL m:=fun x hx=>h x (k x hx)
theorem snoc_vg {out:List Trk.Clip} {c:Trk.Clip} (h:VGL out) (k:VG c) (ht:Trk.total out+c.len≤2147483647):VGL (Trk.snoc out c):=by
 unfold Trk.snoc
 cases ho:out.getLast? with
 |none=>exact VGL.cons k VGL.nil
 | some p =>
  simp only
  have hs:=Trk.getLast_split ho
  have hp:p∈out:=by rw[hs];simp
  split
  ·rename_i hc
   refine VGL.append (h.sub fun x hx=>Trk.mem_drop_last hx) (VGL.cons ((h p hp).join k hc ?_) VGL.nil)
   have:=Trk.len_le_total h.good hp
   omega
  exact h.append (VGL.cons k VGL.nil)
theorem pk_vg {l:List Trk.Clip} (h:VGL l) (ht:Trk.total l≤2147483647):VGL (Trk.pk l):=by
 revert h ht
 refine Trk.list_snoc (P:=fun l=>VGL l→Trk.total l≤2147483647→VGL (Trk.pk l)) (fun _ _=>VGL.nil) (fun l c ih h ht=>?_) l
 have hl:VGL l:=h.sub fun x hx=>List.mem_append_left _ hx
 have hc:VG c:=h c (by simp)
 have c1:=hc.l0
 have et:Trk.total (l++[c])=Trk.total l+c.len:=by rw[Trk.total_append];show _+(c.len+0)=_;omega
 rw[et]at ht
 rw[Trk.pk_snoc]
 refine snoc_vg (ih hl (by omega)) hc ?_
 rw[(Trk.pk_of hl.good).s.t]
 exact ht
theorem TV.l {l:List Trk.Clip} (h:TV l):VGL l:=h.c
theorem TV.nf {l:List Trk.Clip} (h:TV l):TV (Trk.nf l):=by
 refine⟨Nat.le_trans (Trk.nf_length h.good) h.n,?_,Int.le_trans (Trk.nf_total h.good) h.t⟩
 have hp:=pk_vg h.l h.t
 unfold Trk.nf Trk.dropGap
 split
 ·exact hp
 split
 ·exact hp.sub fun x hx=>Trk.mem_drop_last hx
 exact hp
def okCut:List Trk.Clip→Int→Prop
 |[],_=>True
 |c::l,f=>if c.len≤f then okCut l (f-c.len) else PlOK (Trk.moved c.a f)∧PlOK (Trk.moved c.b f)
theorem PlOK.zero {s:Trk.Src} (h:SrcV s):PlOK (Trk.moved s 0):=by
 rw[Trk.moved_zero h.okw.okay]
 rcases h with h |h
 ·exact .inl h
 exact .inr ⟨h.a0,h.a1⟩
theorem okCut_zero {l:List Trk.Clip} (h:VGL l):okCut l 0:=by
 cases l with
 |nil=>exact trivial
 |cons c l=>
  have hc:=h c (by simp)
  have:=hc.l0
  unfold okCut
  rw[if_neg (by omega)]
  exact⟨PlOK.zero hc.a,PlOK.zero hc.b⟩
theorem cutRaw_vg:∀ {l:List Trk.Clip} {f n:Int},VGL l→0≤f→n≤2147483647→okCut l f→VGL (Trk.cutRaw l f n)
 |[],f,n,_,hf,hn,_=>by
  unfold Trk.cutRaw
  split
  ·exact VGL.cons (gap_vg (by omega) hn) VGL.nil
  exact VGL.nil
 | c :: l, f, n, h, hf, hn, ho => by
  unfold Trk.cutRaw
  have hc:=h c (by simp)
  have ht:VGL l:=h.sub fun x hx=>List.mem_cons_of_mem _ hx
  have c1:=hc.l0
  unfold okCut at ho
  split
  ·exact VGL.nil
  split
  ·rename_i hlf
   rw[if_pos hlf]at ho
   exact cutRaw_vg ht (by omega) hn ho
  rename_i hn0 hlf
  rw[if_neg hlf]at ho
  exact VGL.cons ((hc.piece hf (by omega) (by omega)).2 ho) (cutRaw_vg ht (Int.le_refl 0) (by omega) (okCut_zero ht))
theorem cut_vg {l:List Trk.Clip} {a b:Int} (h:VGL l) (ha:0≤a) (hb:a≤b) (hn:b-a≤2147483647) (ho:okCut l a):VGL (Trk.cut l a b):=
 pk_vg (cutRaw_vg h ha hn ho) (by rw[(Trk.cutRaw_spec h.good ha (by omega)).2.1];exact hn)
theorem TG.gt {w:World} {C:Nat} {v:Value} {l:List Trk.Clip} (h:TG w C v l) (hi:∀ c∈l,InC c):GT w v l:=by
 obtain⟨ao,cap,e,h1,h2,h3⟩:=h
 refine⟨ao,cap,e,h1,h2,fun i c hc=>?_⟩
 obtain⟨b,o,x,e2,hA,hx⟩:=h3 i c hc
 exact⟨b,o,x,e2,hA,hx.it,hi c (List.mem_of_getElem? hc)⟩
theorem GT.tg {w:World} {v:Value} {l:List Trk.Clip} (h:GT w v l):TG w w.heap.size v l:=by
 obtain⟨ao,cap,e,h1,h2,h3⟩:=h
 refine⟨ao,cap,e,h1,h2,fun i c hc=>?_⟩
 obtain⟨b,o,x,e2,hA,hx,_⟩:=h3 i c hc
 exact⟨b,o,x,e2,hA,hx.ch (Nat.le_refl _)⟩
theorem vtrackg_any (C:Nat) (v:Value) (l:List Trk.Clip) (w:World) (h:TG w C v l) (hi:∀ c∈l,InC c):Calls Tryz.prog 47 #[v] w fun e w'=>e=.returned (.bool (trackB l))∧Below w.heap.size w w':=
 vtrack_all v l w (h.gt hi) clip_says
theorem vtrackg_yes (C:Nat) (v:Value) (l:List Trk.Clip) (w:World) (h:TG w C v l) (hV:TV l):Calls Tryz.prog 47 #[v] w fun e w'=>e=.returned (.bool true)∧Below w.heap.size w w':=by
 have:=vtrackg_any C v l w h hV.inc
 rw[trackB_iff.2 hV]at this
 exact this
theorem OG.drop {w:World} {B C g cap k:Nat} {q:List Trk.Clip} {p:Trk.Clip} (h:OG w B C (.slice (some ⟨g,0,none⟩) k cap) (q++[p])):OG w B C (.slice (some ⟨g,0,none⟩) q.length cap) q:=by
 obtain⟨xs,h1,h2,h3⟩:=h
 obtain⟨ys,y,rfl⟩:∃ ys y,xs=ys++[y]:=by
  have hne:xs≠[]:=by rintro rfl;simp at h1
  exact⟨xs.dropLast,xs.getLast hne,(List.dropLast_concat_getLast hne).symm⟩
 have hyl:ys.length=q.length:=by simpa using h1
 refine⟨ys,hyl,?_,fun i c x hi hx=>h3 i c x (by rw[List.getElem?_append_left (List.getElem?_eq_some_iff.1 hi).1];exact hi) (by rw[List.getElem?_append_left (List.getElem?_eq_some_iff.1 hx).1];exact hx)⟩
 rcases h2 with⟨e,_⟩ |⟨g',cap',cur,e,hB,hg,hk,hc,hs,ht,hl⟩
 ·simp at e
 simp only[Value.slice.injEq,Option.some.injEq,Addr.mk.injEq,and_true,true_and]at e
 obtain⟨rfl,rfl,rfl⟩:=e
 have hlen:(q++[p]).length=q.length+1:=by simp
 refine Or.inr ⟨g,cap,cur,rfl,hB,hg,by omega,hc,hs,?_,gcells_length hyl⟩
 rw[hlen,gcells_append _ _ hyl]at ht
 have h2:=congrArg (List.take (q.length*22)) ht
 rw[List.take_take,Nat.min_eq_left (by omega),List.take_append_of_le_length (by rw[gcells_length hyl];exact Nat.le_refl _),List.take_of_length_le (l:=gcells q ys) (by rw[gcells_length hyl];exact Nat.le_refl _)]at h2
 exact h2
theorem totalg_any (C:Nat) (v:Value) (l:List Trk.Clip) (w:World) (h:TG w C v l) (hG:Trk.GoodL l) (ht:Trk.total l≤4611686018427387904) (hl:l.length≤1048576) :
  Calls Tryz.prog 71 #[v] w fun e w'=>e=.returned (.int .i64 (Trk.total l))∧Below w.heap.size w w':=by
 obtain⟨ao,cap,rfl,hc1,hc2,hT⟩:=h
 have HT:=Hd (show TG w C (.slice ao l.length cap) l from⟨ao,cap,rfl,hc1,hc2,hT⟩)
 clear hT
 have HG:=Hd hG
 have HTT:=Hd ht
 obtain⟨L,hL⟩:=Xq (l.length)
 rw[← hL]at hl hc1
 have HLe:=Hd hL
 rw[← hL]
 clear hG ht hL hc2
 go_enter Tryz.func71,Tryz.ntmps71
 go_wp2_with fail
 go_loopw [3,8] (fun v3 v8 wr=>∃ k:Nat,k≤L∧v8=.int .i64 (k:Int)∧v3=.int .i64 (Trk.total (l.take k))∧Below w.heap.size w wr) (fun _ i _=>L-(intOf i).toNat)
 case atStart=>exact⟨0,Nat.zero_le _,rfl,rfl,Below.refl _ _⟩
 case round=>
  obtain⟨k,hk,rfl,rfl,hb⟩:=hrel
  by_cases hlt:k<L
  ·have hlt':(k:Int)<(L:Int):=by omega
   have hkl:k<l.length:=by rw[← HLe.out];exact hlt
   obtain⟨c,hc⟩:∃ c,l[k]?=some c:=⟨_,List.getElem?_eq_getElem hkl⟩
   obtain⟨ao',cap',e,_,_,hT⟩:=HT.out.below hb
   simp only[Value.slice.injEq,true_and]at e
   obtain⟨rfl,rfl⟩:=e
   obtain⟨b,o,x,rfl,hA,hx⟩:=hT k c hc
   obtain⟨ax,cx,ex⟩:=hx.form
   obtain⟨nx,hnx⟩:=Xq (c.chan.length)
   rw[← hnx]at ex
   subst ex
   clear hT hnx hx
   have hn:Trk.total (l.take (k+1))=Trk.total (l.take k)+c.len:=by
    rw[List.take_add_one,hc]
    show Trk.total (l.take k++[c])=_
    rw[Trk.total_append]
    show _+(c.len+0)=_
    omega
   have h1:=total_take l HG.out (k+1)
   have h2:=Trk.total_nonneg (l:=l.take k) (fun x hx=>HG.out x (List.mem_of_mem_take hx))
   have h3:=(HG.out c (List.mem_of_getElem? hc)).l
   have h4:=HTT.out
   obtain⟨s,hs⟩:=Xq (Trk.total (l.take k))
   rw[← hs]at hn h2 ⊢
   have h5:s+c.len≤4611686018427387904:=by omega
   have HN:=Hd hn
   have HA:=Hd hA
   have HB:=Hd hb
   have HC:=Hd hc
   clear hA hb hc hkl hn h1 h4 hs
   go_upto_region 4 with fail
   apply wp_region_lit
   iterate 3 go_step
   refine wpl_loadG HA.out rfl rfl rfl ?_
   refine wpl_allocB rfl rfl (fun w2 hg hb2 hs2=>?_)
   obtain⟨g,hgg⟩:=Xq (wr.heap.size)
   rw[← hgg]at hg ⊢
   have hgn:w.heap.size≤g:=by rw[hgg];exact HB.out.size
   have HB2:=Hd (HB.out.trans (hb2.mono HB.out.size))
   clear hb2 hs2 hgg HA
   refine wpl_storeB2 c ax nx cx hg rfl rfl rfl rfl ?_
   intro w3 hv ho3 hs3 hb3
   have HB3:=Hd (hb3 _ _ hgn HB2.out)
   have x0:=hv.ga.at0.1
   clear hv ho3 hs3 hb3 hg HB2
   simp only[Act.put,sA1,sB1,sC1]
   obtain⟨C,hC⟩:=Xq ((clipG c (.slice ax nx cx)).toArray)
   rw[← hC]
   clear hC
   go_wp2_with fail
   go_roundw
   case rel=>exact⟨k+1,by omega,by simp,by rw[HN.out],HB3.out⟩
   case measure=>
    show L-(intOf (.int .i64 ((k:Int)+1))).toNat<L-(intOf (.int .i64 (k:Int))).toNat
    simp[intOf]
    omega
  have hkl:k=L:=by omega
  have e:l.take k=l:=List.take_of_length_le (by rw[← HLe.out];omega)
  rw[e]
  have HB:=Hd hb
  clear hb e
  subst hkl
  go_wp2_with fail
  go_ret
  exact⟨rfl,HB.out⟩
theorem packsg_any (C:Nat) (v:Value) (l:List Trk.Clip) (w:World) (h:TG w C v l) (hV:TV l) :
  Calls Tryz.prog 60 #[v] w (OGPost w (Trk.pk l)):=by
 have HT:=Hd h
 have H1:=Hd (fun w (h:TG w C v l)=>vtrackg_yes C v l w h hV)
 have H2:=Hd (fun w (h:TG w C v l)=>packg_any C v l w h hV.okg (by have:=hV.n;omega) (by have:=hV.t;omega))
 clear h hV
 go_enter Tryz.func60,Tryz.ntmps60
 go_wp2_with fail
 refine(H1.out _ HT.out).mono ?_
 rintro e w1 ⟨rfl,hb⟩
 have HB:=Hd hb
 clear hb
 go_wp2_with fail
 refine(H2.out _ (HT.out.below HB.out)).mono ?_
 rintro e w2 ⟨v',rfl,ho,hb⟩
 have HO:=Hd (And.intro ho hb)
 clear ho hb
 go_wp2_with fail
 go_ret
 exact⟨_,rfl,HO.out.1.lower HB.out.size,HB.out.trans (HO.out.2.mono HB.out.size)⟩
theorem lengthg_any (C:Nat) (v:Value) (l:List Trk.Clip) (w:World) (h:TG w C v l) (hV:TV l) :
  Calls Tryz.prog 31 #[v] w fun e w'=>e=.returned (.int .i64 (Trk.total l))∧Below w.heap.size w w':=by
 have HT:=Hd h
 have H1:=Hd (fun w (h:TG w C v l)=>vtrackg_yes C v l w h hV)
 have H2:=Hd (fun w (h:TG w C v l)=>totalg_any C v l w h hV.good (by have:=hV.t;omega) (by have:=hV.n;omega))
 clear h hV
 go_enter Tryz.func31,Tryz.ntmps31
 go_wp2_with fail
 refine(H1.out _ HT.out).mono ?_
 rintro e w1 ⟨rfl,hb⟩
 have HB:=Hd hb
 clear hb
 go_wp2_with fail
 refine(H2.out _ (HT.out.below HB.out)).mono ?_
 rintro e w2 ⟨rfl,hb⟩
 have HO:=Hd hb
 clear hb
 go_wp2_with fail
 go_ret
 exact⟨rfl,HB.out.trans (HO.out.mono HB.out.size)⟩
theorem normalg_any (C:Nat) (v:Value) (l:List Trk.Clip) (w:World) (h:TG w C v l) (hV:TV l) :
  Calls Tryz.prog 21 #[v] w (OGPost w (Trk.nf l)):=by
 have HT:=Hd h
 have H1:=Hd (fun w (h:TG w C v l)=>packsg_any C v l w h hV)
 have hn:(Trk.pk l).length≤64:=Nat.le_trans (Trk.pk_of hV.good).n hV.n
 unfold Trk.nf
 obtain⟨P,hP⟩:=Xq (Trk.pk l)
 rw[← hP]at H1 hn ⊢
 clear h hV hP
 go_enter Tryz.func21,Tryz.ntmps21
 go_wp2_with fail
 refine(H1.out _ HT.out).mono ?_
 rintro e w1 ⟨v',rfl,ho,hb⟩
 have HB:=Hd hb
 have HO:=Hd ho
 clear hb ho
 obtain⟨rfl,rfl⟩ |⟨g,cap,rfl⟩:=HO.out.shape
 ·go_wp2_with fail
  go_ret
  exact⟨_,rfl,HO.out,HB.out⟩
 cases hp:P.getLast? with
 |none=>
  have e0:P=[]:=List.getLast?_eq_none_iff.1 hp
  subst e0
  clear hp
  simp only[List.length_nil]
  go_wp2_with fail
  go_ret
  exact⟨_,rfl,HO.out,HB.out⟩
 | some p =>
  have hs:=Trk.getLast_split hp
  have HD:=Hd (show Trk.dropGap P=if p.kind=0 then P.dropLast else P by unfold Trk.dropGap;rw[hp])
  obtain⟨q,hq⟩:=Xq (P.dropLast)
  rw[← hq]at hs HD
  clear hp hq
  subst hs
  have hlen:(q++[p]).length=q.length+1:=by simp
  rw[hlen]at hn HO ⊢
  obtain⟨xp,hcp,-⟩:=HO.out.cell (i:=q.length) (c:=p) (by simp)
  have HCP:=Hd hcp
  have HDR:=Hd HO.out.drop
  obtain⟨n,hn2⟩:=Xq (q.length)
  rw[← hn2]at hn HO HCP HDR ⊢
  have hcap:n+1≤cap:=HO.out.blk.2.2.1
  have z1:=HCP.out.k1
  clear hlen hcp hn2 HT H1 HCP
  by_cases hk:p.kind=0
  ·have HR:=Hd (HD.out.trans (if_pos hk))
   rw[hk]at z1
   clear hk HD
   go_wp2_with fail
   go_ret
   rw[HR.out]
   exact⟨_,rfl,HDR.out,HB.out⟩
  have HR:=Hd (HD.out.trans (if_neg hk))
  clear HD
  go_wp2_with fail
  go_ret
  rw[HR.out]
  exact⟨_,rfl,HO.out,HB.out⟩
theorem eqfuncg_any (C1 C2:Nat) (v u:Value) (l m:List Trk.Clip) (w:World) (h:TG w C1 v l) (h':TG w C2 u m) :
  Calls Tryz.prog 65 #[v,u,.func (.func 66) #[] #[]] w fun e w'=>e=.returned (.bool (decide (l=m)))∧Below w.heap.size w w':=by
 have HT:=Hd h
 have HU:=Hd h'
 obtain⟨ao,cap,rfl,hc1,hc2,-⟩:=h
 obtain⟨bo,dap,rfl,hd1,hd2,-⟩:=h'
 obtain⟨N,hN⟩:=Xq (l.length)
 obtain⟨M,hM⟩:=Xq (m.length)
 have hNm:N≤9223372036854775807:=by unfold maxLen at hc2;omega
 have hMm:M≤9223372036854775807:=by unfold maxLen at hd2;omega
 rw[← hN,← hM]
 rw[← hN]at HT
 rw[← hM]at HU
 have HN:=Hd hN
 have HMM:=Hd hM
 clear hN hM hc1 hc2 hd1 hd2
 by_cases hlen:N=M
 rotate_left
 ·have hne:decide (l=m)=false:=decide_eq_false fun e=>hlen (by rw[HN.out,HMM.out,e])
  rw[hne]
  have z1:((N:Int)==(M:Int))=false:=by simp;omega
  have z2:((N:Int) != (M:Int))=true:=by simp;omega
  have z3:¬((N:Int)=(M:Int)):=by omega
  go_enter Tryz.func65,Tryz.ntmps65
  go_wp2_with fail
  go_ret
  exact⟨rfl,Below.refl _ _⟩
 subst hlen
 obtain⟨r,hr⟩:=Xq (decide (l=m))
 have HR:=Hd hr
 rw[← hr]
 clear hr
 go_enter Tryz.func65,Tryz.ntmps65
 go_upto_region 4 with fail
 go_loopw [17] (fun i wr=>∃ k:Nat,k≤N∧i=.int .i64 (k:Int)∧l.take k=m.take k∧Below w.heap.size w wr) (fun i _=>N-(intOf i).toNat)
 case atStart=>exact⟨0,Nat.zero_le _,rfl,by simp,Below.refl _ _⟩
 case round=>
  obtain⟨k,hk,rfl,hpre,hb⟩:=hrel
  have HP:=Hd hpre
  have HB:=Hd hb
  clear hpre hb
  by_cases hlt:k<N
  ·have hlt':(k:Int)<(N:Int):=by omega
   obtain⟨c,hc⟩:∃ c,l[k]?=some c:=⟨_,List.getElem?_eq_getElem (by have:=HN.out;omega)⟩
   obtain⟨d,hd⟩:∃ d,m[k]?=some d:=⟨_,List.getElem?_eq_getElem (by have:=HMM.out;omega)⟩
   obtain⟨ao',cap',e,_,_,hT⟩:=HT.out.below HB.out
   have e1:=HN.out
   simp only[Value.slice.injEq]at e
   obtain⟨rfl,-,rfl⟩:=e
   obtain⟨b,o,x,rfl,hA,hx⟩:=hT k c hc
   obtain⟨ax,cx,ex⟩:=hx.form
   obtain⟨nx,hnx⟩:=Xq (c.chan.length)
   rw[← hnx]at ex
   subst ex
   obtain⟨bo',dap',e,_,_,hU⟩:=HU.out.below HB.out
   simp only[Value.slice.injEq]at e
   obtain⟨rfl,-,rfl⟩:=e
   obtain⟨b2,o2,y,rfl,hA2,hy⟩:=hU k d hd
   obtain⟨ay,cy,ey⟩:=hy.form
   obtain⟨ny,hny⟩:=Xq (d.chan.length)
   rw[← hny]at ey
   subst ey
   have HIX:=Hd (And.intro hx.it hy.it)
   have HA:=Hd hA
   have HA2:=Hd hA2
   have HQ:=Hd (And.intro hc hd)
   have HEQ:=Hd (fun(w1:World) (h1:IT w1 (.slice ax nx cx) c.chan) (h2:IT w1 (.slice ay ny cy) d.chan)=>equalg_any c d _ _ w1 h1 h2)
   unfold clipGV at HEQ
   obtain⟨C,hC⟩:=Xq ((clipG c (.slice ax nx cx)).toArray)
   obtain⟨D,hD⟩:=Xq ((clipG d (.slice ay ny cy)).toArray)
   rw[← hC,← hD]at HEQ
   have HC:=Hd hC
   have HD:=Hd hD
   clear hT hU hA hA2 hc hd e1 hC hD hx hy hnx hny
   go_upto_region 5 with fail
   apply wp_region_lit
   iterate 6 go_step
   refine wpl_loadG HA.out rfl rfl rfl ?_
   rw[← HC.out]
   refine wpl_allocB rfl rfl (fun w3 hcv hb3 hs3=>?_)
   iterate 3 go_step
   refine wpl_storeB2 c ax nx cx hcv rfl rfl rfl (by rw[← HC.out];rfl) ?_
   intro w4 hv4 ho4 hz4 hb4
   have hb:Below wr.heap.size wr w4:=hb4 _ _ (Nat.le_refl _) hb3
   have HV8:=Hd hv4
   obtain⟨g8,hg8⟩:=Xq (wr.heap.size)
   rw[← hg8]at HV8 ⊢
   have HA4:=Hd (HA2.out.below hb)
   replace HIX:=Hd (And.intro (HIX.out.1.below hb) (HIX.out.2.below hb))
   have HB4:=Tb HB hb
   clear hcv hb3 hs3 hv4 ho4 hz4 hb4 hb hg8 HA HA2 HB
   simp only[Act.put,sA1,sB1,sC1]
   go_upto_region 6 with fail
   apply wp_region_lit
   iterate 9 go_step
   refine wpl_loadG HA4.out rfl rfl rfl ?_
   rw[← HD.out]
   refine wpl_allocB rfl rfl (fun w5 hcv hb3 hs3=>?_)
   refine wpl_storeB2 d ay ny cy hcv rfl rfl rfl (by rw[← HD.out];rfl) ?_
   intro w6 hv6 ho6 hz6 hb6
   have hb:Below w4.heap.size w4 w6:=hb6 _ _ (Nat.le_refl _) hb3
   have HV9:=Hd hv6
   obtain⟨g9,hg9⟩:=Xq (w4.heap.size)
   rw[← hg9]at HV9 ⊢
   replace HV8:=Hd (HV8.out.below hb)
   replace HIX:=Hd (And.intro (HIX.out.1.below hb) (HIX.out.2.below hb))
   have HB6:=Tb HB4 hb
   clear hcv hb3 hs3 hv6 ho6 hz6 hb6 hb hg9 HA4 HB4
   simp only[Act.put,sA1,sB1,sC1]
   go_upto_region 7 with fail
   apply wp_region_lit
   iterate 3 go_step
   refine wpl_loadG HV8.out.ga rfl rfl rfl ?_
   rw[← HC.out]
   refine wpl_loadG HV9.out.ga rfl rfl rfl ?_
   rw[← HD.out]
   simp only[Act.put,sA1,sB1,sC1]
   go_wp2_with fail
   refine(HEQ.out w6 HIX.out.1 HIX.out.2).mono ?_
   rintro e w7 ⟨rfl,hb⟩
   have HB7:=Tb HB6 hb
   clear hb HV8 HV9 HB6
   by_cases hcd:c=d
   ·have hdec:decide (c=d)=true:=decide_eq_true hcd
    have HCD:=Hd hcd
    clear hcd
    rw[hdec]
    go_wp2_with fail
    go_roundw
    case rel=>exact⟨k+1,by omega,by simp,take_eq HQ.out.1 (by rw[HQ.out.2,HCD.out]) HP.out,HB7.out⟩
    case measure=>
     simp[intOf]
     omega
   have hdec:decide (c=d)=false:=decide_eq_false hcd
   rw[hdec]
   have hrf:r=false:=by rw[HR.out];exact decide_eq_false (take_ne HQ.out.1 HQ.out.2 hcd)
   subst hrf
   clear hcd
   go_wp2_with fail
   go_ret
   exact⟨rfl,HB7.out⟩
  have hkn:k=N:=by omega
  have hrt:r=true:=by
   rw[HR.out]
   refine decide_eq_true ?_
   have h1:=HP.out
   rw[List.take_of_length_le (by have:=HN.out;omega),List.take_of_length_le (by have:=HMM.out;omega)]at h1
   exact h1
  subst hrt
  go_wp2_with fail
  go_ret
  exact⟨rfl,HB.out⟩
theorem sameg_any (C1 C2:Nat) (v u:Value) (l m:List Trk.Clip) (w:World) (h:TG w C1 v l) (h':TG w C2 u m) (hl:TV l) (hm:TV m) :
  Calls Tryz.prog 29 #[v,u] w fun e w'=>e=.returned (.bool (decide (Trk.nf l=Trk.nf m)))∧Below w.heap.size w w':=by
 have HT:=Hd h
 have HU:=Hd h'
 have HV1:=Hd (fun(w:World) (h:TG w C1 v l)=>vtrackg_yes C1 v l w h hl)
 have HV2:=Hd (fun(w:World) (h:TG w C2 u m)=>vtrackg_yes C2 u m w h hm)
 have HN1:=Hd (fun(w:World) (h:TG w C1 v l)=>normalg_any C1 v l w h hl)
 have HN2:=Hd (fun(w:World) (h:TG w C2 u m)=>normalg_any C2 u m w h hm)
 have HEQ:=Hd (fun(a b:Value) (w:World) (h:TG w 0 a (Trk.nf l)) (h':TG w 0 b (Trk.nf m))=>eqfuncg_any 0 0 a b _ _ w h h')
 obtain⟨ao,cap,rfl,-⟩:=h
 obtain⟨bo,dap,rfl,-⟩:=h'
 clear hl hm
 go_enter Tryz.func29,Tryz.ntmps29
 go_wp2_with fail
 refine(HV1.out w HT.out).mono ?_
 rintro e w1 ⟨rfl,hb⟩
 have HB:=Hd hb
 clear hb
 go_wp2_with fail
 refine(HV2.out w1 (HU.out.below HB.out)).mono ?_
 rintro e w2 ⟨rfl,hb⟩
 replace HB:=Tb HB hb
 clear hb
 go_wp2_with fail
 refine(HN1.out w2 (HT.out.below HB.out)).mono ?_
 rintro e w3 ⟨r1,rfl,ho,hb⟩
 replace HB:=Tb HB hb
 have HO:=Hd ho.tg
 clear hb ho
 go_wp2_with fail
 refine(HN2.out w3 (HU.out.below HB.out)).mono ?_
 rintro e w4 ⟨r2,rfl,ho,hb⟩
 replace HB:=Tb HB hb
 replace HO:=Hd (HO.out.below hb)
 have HO2:=Hd ho.tg
 clear hb ho
 go_wp2_with fail
 refine(HEQ.out r1 r2 w4 HO.out HO2.out).mono ?_
 rintro e w5 ⟨rfl,hb⟩
 replace HB:=Tb HB hb
 clear hb
 go_wp2_with fail
 go_ret
 exact⟨rfl,HB.out⟩
open Classical in
noncomputable def plB (s:Trk.Src):Bool:=decide (PlOK s)
open Classical in
theorem plB_yes {s:Trk.Src} (h:PlOK s):plB s=true:=decide_eq_true h
open Classical in
theorem plB_no {s:Trk.Src} (h:¬PlOK s):plB s=false:=decide_eq_false h
theorem findg_any (D:Nat) (v:Value) (l:List Trk.Clip) (n:Int) (w:World) (h:TG w D v l) (hV:TV l) (n0:0≤n) (n1:n≤2147483647) :
  Calls Tryz.prog 68 #[v,.int .i64 n] w fun e w'=>e=.returned (findV (findL l n 0))∧Below w.heap.size w w':=by
 obtain⟨ao,cap,rfl,hc1,hc2,hT⟩:=h
 have HT:=Hd (show TG w D (.slice ao l.length cap) l from⟨ao,cap,rfl,hc1,hc2,hT⟩)
 clear hT
 have HG:=Hd hV.c
 have hl:=hV.n
 obtain⟨R,hR⟩:=Xq (findV (findL l n 0))
 rw[← hR]
 have HR:=Hd hR
 clear hR
 obtain⟨N,hN⟩:=Xq (l.length)
 rw[← hN]at hl hc1
 have HLe:=Hd hN
 rw[← hN]
 clear hV hN hc2
 go_enter Tryz.func68,Tryz.ntmps68
 go_wp2_with fail
 go_loopw [1,13] (fun v1 v13 wr=>∃ (k:Nat) (r:Int),k≤N∧v13=.int .i64 (k:Int)∧v1=.int .i64 r∧0≤r∧r≤2147483647∧Hid (R=findV (findL (l.drop k) r k))∧Below w.heap.size w wr) (fun _ i _=>N-(intOf i).toNat)
 case atStart=>exact⟨0,n,Nat.zero_le _,rfl,rfl,n0,n1,HR,Below.refl _ _⟩
 case round=>
  obtain⟨k,r,hk,rfl,rfl,r0,r1,HQ,hb⟩:=hrel
  by_cases hlt:k<N
  ·have hlt':(k:Int)<(N:Int):=by omega
   have hkl:k<l.length:=by rw[← HLe.out];exact hlt
   obtain⟨c,hc⟩:∃ c,l[k]?=some c:=⟨_,List.getElem?_eq_getElem hkl⟩
   obtain⟨ao',cap',e,_,_,hT⟩:=HT.out.below hb
   simp only[Value.slice.injEq,true_and]at e
   obtain⟨rfl,rfl⟩:=e
   obtain⟨b,o,x,rfl,hA,hx⟩:=hT k c hc
   obtain⟨ax,cx,ex⟩:=hx.form
   obtain⟨nx,hnx⟩:=Xq (c.chan.length)
   rw[← hnx]at ex
   subst ex
   clear hT hx hnx
   have h3:=(HG.out c (List.mem_of_getElem? hc)).good.l
   have h4:=(HG.out c (List.mem_of_getElem? hc)).l1
   have HF:=Hd (HQ.out.trans (congrArg findV (findL_drop l n k hc r k)))
   have HA:=Hd hA
   have HB:=Hd hb
   have HC:=Hd hc
   clear hA hb hc hkl
   go_upto_region 5 with fail
   apply wp_region_lit
   iterate 6 go_step
   refine wpl_loadG HA.out rfl rfl rfl ?_
   refine wpl_allocB rfl rfl (fun w2 hg hb2 hs2=>?_)
   obtain⟨g,hgg⟩:=Xq (wr.heap.size)
   rw[← hgg]at hg ⊢
   have hgn:w.heap.size≤g:=by rw[hgg];exact HB.out.size
   have HB2:=Hd (HB.out.trans (hb2.mono HB.out.size))
   clear hb2 hs2 hgg HA
   obtain⟨C,hC⟩:=Xq ((clipG c (.slice ax nx cx)).toArray)
   rw[← hC]
   have HCC:=Hd hC
   clear hC
   simp only[Act.put,sA1,sB1,sC1]
   iterate 3 go_step
   refine wpl_storeB2 c ax nx cx hg rfl rfl rfl (by rw[← HCC.out];rfl) ?_
   intro w3 hv ho3 hs3 hb3
   have HB3:=Hd (hb3 _ _ hgn HB2.out)
   have x0:=hv.ga.at0.1
   clear hv ho3 hs3 hb3 hg HB2 HCC
   simp only[Act.put,sA1,sB1,sC1]
   by_cases hr:r<c.len
   ·have HF2:=Hd (HF.out.trans (congrArg findV (if_pos hr)))
    go_wp2_with fail
    refine bodyPost_ret (v:=findV (some (k,r))) (by simp[results,Tryz.results68,go_sem,findV]) rfl ⟨?_,HB3.out⟩
    rw[HF2.out]
   have HF2:=Hd (HF.out.trans (congrArg findV (if_neg hr)))
   go_wp2_with fail
   go_roundw
   case rel=>exact⟨k+1,r-c.len,by omega,by simp,rfl,by omega,by omega,HF2,HB3.out⟩
   case measure=>
    show N-(intOf (.int .i64 ((k:Int)+1))).toNat<N-(intOf (.int .i64 (k:Int))).toNat
    simp[intOf]
    omega
  have hkl:k=N:=by omega
  have e:l.drop k=[]:=List.drop_eq_nil_of_le (by rw[← HLe.out];omega)
  have HF2:=Hd (show R=findV none by rw[HQ.out,e];rfl)
  have HB:=Hd hb
  clear hb e
  subst hkl
  go_wp2_with fail
  refine bodyPost_ret (v:=findV none) (by simp[results,Tryz.results68,go_sem,findV]) rfl ⟨?_,HB.out⟩
  rw[HF2.out]
theorem placedg_any (s:Trk.Src) (w:World) (h:s=Trk.black∨((s.kind=1∨s.kind=2)∧Trk.Wide 8796093022208 s)) :
  Calls Tryz.prog 111 #[srcV s] w fun e w'=>e=.returned (.bool (plB s))∧Below w.heap.size w w':=by
 rcases h with rfl |⟨hk,h⟩
 ·rw[plB_yes (.inl rfl)]
  simp only[srcV,srcC,Trk.black]
  go_enter Tryz.func111,Tryz.ntmps111
  go_upto_region 1 with fail
  obtain⟨w1,hw1⟩:=Xq (w.alloc (.cells #[.int .i64 0,.string ByteArray.empty,.int .i64 0,.int .i64 0,.int .i64 0,.int .i64 0,.bool false] 46))
  rw[← hw1]
  have hb1:Below w.heap.size w w1:=by rw[hw1];exact below_box _ _
  obtain⟨b,hb⟩:=Xq (w.heap.size)
  have c0:C7 w1 b 0 (.int .i64 0) (.string ByteArray.empty) (.int .i64 0) (.int .i64 0) (.int .i64 0) (.int .i64 0) (.bool false):=by rw[hw1,hb];constructor<;>simp[go_sem]
  rw[← hb]
  have HB:=Hd hb1
  clear hw1 hb1
  obtain⟨x0,x1,x2,x3,x4,x5,x6⟩:=c0.at0
  have hq:=run_eq_src Trk.black Trk.black w1
  simp only[Trk.black]at hq
  clear c0 hb
  go_wp2_with fail
  all_goals go_ret
  all_goals exact⟨rfl,HB.out⟩
 have hb:=h.bounds
 have hne:=h.g.ne
 have HA:=Hd (fun w=>bounded_all s.an s.ad 1099511627776 w (by omega) (by omega) (by omega) (by omega) (by decide) (by decide))
 have hbd:bndB s.an s.ad 1099511627776=plB s:=by
  unfold bndB
  rw[validR_of h.g.a0 h.g.a1 (by omega),decide_eq_true (show s.ad≤65536 by omega),Bool.true_and,Bool.true_and]
  by_cases hp:-(1099511627776*s.ad)≤s.an∧s.an≤1099511627776*s.ad
  ·rw[plB_yes (.inr hp),decide_eq_true hp.1,decide_eq_true hp.2];rfl
  rw[plB_no (fun e=>e.elim hne hp)]
  by_cases h1:-(1099511627776*s.ad)≤s.an
  ·rw[decide_eq_true h1,decide_eq_false (fun h2=>hp ⟨h1,h2⟩)];rfl
  rw[decide_eq_false h1];rfl
 rw[hbd]at HA
 obtain⟨R,hR⟩:=Xq (plB s)
 rw[← hR]at HA ⊢
 clear h hb hne hbd hR
 obtain⟨k,nm,an,ad,sn,sd,sm⟩:=s
 simp only at HA hk
 simp only[srcV,srcC]
 go_enter Tryz.func111,Tryz.ntmps111
 go_upto_region 1 with fail
 obtain⟨w1,hw1⟩:=Xq (w.alloc (.cells #[.int .i64 k,.string nm,.int .i64 an,.int .i64 ad,.int .i64 sn,.int .i64 sd,.bool sm] 46))
 rw[← hw1]
 have hb1:Below w.heap.size w w1:=by rw[hw1];exact below_box _ _
 obtain⟨b,hb⟩:=Xq (w.heap.size)
 have c0:C7 w1 b 0 (.int .i64 k) (.string nm) (.int .i64 an) (.int .i64 ad) (.int .i64 sn) (.int .i64 sd) (.bool sm):=by rw[hw1,hb];constructor<;>simp[go_sem]
 rw[← hb]
 have HB:=Hd hb1
 clear hw1 hb1
 obtain⟨x0,x1,x2,x3,x4,x5,x6⟩:=c0.at0
 clear c0 hb
 rcases hk with rfl |rfl
 all_goals
  go_wp2_with fail
  refine(HA.out _).mono ?_
  rintro e w2 ⟨rfl,hb⟩
  go_wp2_with fail
  go_ret
  exact⟨rfl,HB.out.trans (hb.mono HB.out.size)⟩
theorem SrcV.far {s:Trk.Src} (h:SrcV s) (n:Int) (hn:n.natAbs≤4294967296):Trk.moved s n=Trk.black∨(((Trk.moved s n).kind=1∨(Trk.moved s n).kind=2)∧Trk.Wide 8796093022208 (Trk.moved s n)):=by
 rcases h with rfl |h
 ·rw[Trk.moved_black];exact .inl rfl
 exact .inr ⟨by rw[Trk.moved_kind];exact h.k,(h.wide.moved n hn).mono (by decide)⟩
end Go.Proofs.YtfoohocgdcgbcaaGreat
