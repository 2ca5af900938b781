/- Texts of this claim joined: SA AA AB AC AD AE AH AK AL AI. -/
import Derived.Test.YtfoohocgdcgbcaaGreatMe17
import Derived.Test.YtfoohocgdcgbcaaGreatSq
set_option linter.unusedVariables false
set_option linter.unusedSimpArgs false
set_option maxRecDepth 100000
set_option maxHeartbeats 40000000
namespace Go.Proofs.YtfoohocgdcgbcaaGreat
open Go.Trk
open Go.RowKit
def NC (c:Nat):Prop:=(97≤c∧c≤122)∨(48≤c∧c≤57)∨c=45∨c=95∨c=46
structure TextP (P:Nat→Prop) (m:Nat) (s:ByteArray):Prop where
 l:1≤s.size
 m:s.size≤m
 c:∀ i (hi:i<s.size),P (s[i].toNat)
open Classical in
noncomputable def nameB (s:ByteArray):Bool:=decide (TextP NC 32 s)
open Classical in
theorem nameB_yes {s:ByteArray} (h:TextP NC 32 s):nameB s=true:=decide_eq_true h
open Classical in
theorem nameB_no {s:ByteArray} (h:¬TextP NC 32 s):nameB s=false:=decide_eq_false h
theorem name_all (s:ByteArray) (w:World) (hs:s.size<9223372036854775808):Calls Tryz.prog 114 #[.string s] w fun e w'=>e=.returned (.bool (nameB s))∧w=w':=by
 go_enter Tryz.func114,Tryz.ntmps114
 by_cases h1:s.size<1
 ·have g1:decide ((s.size:Int)<1)=true:=decide_eq_true (by omega)
  have hr:=nameB_no (s:=s) (fun h=>by have:=h.l;omega)
  rw[hr]
  go_wp2_with fail
  go_ret
  exact⟨rfl,rfl⟩
 have g1:decide ((s.size:Int)<1)=false:=decide_eq_false (by omega)
 by_cases h2:32<s.size
 ·have g2:decide ((s.size:Int)>32)=true:=decide_eq_true (by omega)
  have hr:=nameB_no (s:=s) (fun h=>by have:=h.m;omega)
  rw[hr]
  go_wp2_with fail
  go_ret
  exact⟨rfl,rfl⟩
 have g2:decide ((s.size:Int)>32)=false:=decide_eq_false (by omega)
 go_wp2_with fail
 go_loop [15] (fun i=>∃ k:Nat,k≤s.size∧i=.int .i64 (k:Int)∧∀ j (hj:j<s.size),j<k→NC (s[j].toNat)) (fun i=>s.size-(intOf i).toNat)
 case atStart=>exact⟨0,Nat.zero_le _,rfl,fun j _ h=>absurd h (Nat.not_lt_zero j)⟩
 case round =>
  obtain⟨k,hk,rfl,hL⟩:=hrel
  have HL:=Hd hL
  clear hL
  by_cases hlt:k<s.size
  ·have hlt':(k:Int)<(s.size:Int):=by omega
   go_wp2_with fail
   all_goals try simp only[bne_iff_ne,ne_eq,bne_eq_false_iff_eq]at *
   all_goals first
    |(exfalso;omega)
    | (go_ret
       have hr:=nameB_no (s:=s) (fun h=>by have h3:=h.c k hlt;unfold NC at h3;omega)
       exact⟨by rw[hr];rfl,rfl⟩)
    | exact ⟨⟨k + 1, by omega, by simp, fun j hj hk2 => by
      rcases Nat.lt_or_ge j k with h |h
      ·exact HL.out j hj h
      have e:j=k:=by omega
      subst e
      unfold NC
      omega⟩,by simp[intOf];omega⟩
    |skip
  have hkl:k=s.size:=by omega
  have hr:=nameB_yes (s:=s) ⟨by omega,by omega,fun i hi=>HL.out i hi (by omega)⟩
  clear hkl
  have HRR:=Hd hr
  clear hr
  go_wp2_with fail
  go_ret
  exact⟨by rw[HRR.out];rfl,rfl⟩
def LC (c:Nat):Prop:=32≤c∧c≤126
open Classical in
noncomputable def lineB (s:ByteArray):Bool:=decide (TextP LC 64 s)
open Classical in
theorem lineB_yes {s:ByteArray} (h:TextP LC 64 s):lineB s=true:=decide_eq_true h
open Classical in
theorem lineB_no {s:ByteArray} (h:¬TextP LC 64 s):lineB s=false:=decide_eq_false h
theorem line_all (s:ByteArray) (w:World) (hs:s.size<9223372036854775808):Calls Tryz.prog 135 #[.string s] w fun e w'=>e=.returned (.bool (lineB s))∧w=w':=by
 go_enter Tryz.func135,Tryz.ntmps135
 by_cases h1:s.size<1
 ·have g1:decide ((s.size:Int)<1)=true:=decide_eq_true (by omega)
  have hr:=lineB_no (s:=s) (fun h=>by have:=h.l;omega)
  rw[hr]
  go_wp2_with fail
  go_ret
  exact⟨rfl,rfl⟩
 have g1:decide ((s.size:Int)<1)=false:=decide_eq_false (by omega)
 by_cases h2:64<s.size
 ·have g2:decide ((s.size:Int)>64)=true:=decide_eq_true (by omega)
  have hr:=lineB_no (s:=s) (fun h=>by have:=h.m;omega)
  rw[hr]
  go_wp2_with fail
  go_ret
  exact⟨rfl,rfl⟩
 have g2:decide ((s.size:Int)>64)=false:=decide_eq_false (by omega)
 go_wp2_with fail
 go_loop [14] (fun i=>∃ k:Nat,k≤s.size∧i=.int .i64 (k:Int)∧∀ j (hj:j<s.size),j<k→LC (s[j].toNat)) (fun i=>s.size-(intOf i).toNat)
 case atStart=>exact⟨0,Nat.zero_le _,rfl,fun j _ h=>absurd h (Nat.not_lt_zero j)⟩
 case round =>
  obtain⟨k,hk,rfl,hL⟩:=hrel
  have HL:=Hd hL
  clear hL
  by_cases hlt:k<s.size
  ·have hlt':(k:Int)<(s.size:Int):=by omega
   go_wp2_with fail
   all_goals first
    |(exfalso;omega)
    | (go_ret
       have hr:=lineB_no (s:=s) (fun h=>by have h3:=h.c k hlt;unfold LC at h3;omega)
       exact⟨by rw[hr];rfl,rfl⟩)
    | exact ⟨⟨k + 1, by omega, by simp, fun j hj hk2 => by
      rcases Nat.lt_or_ge j k with h |h
      ·exact HL.out j hj h
      have e:j=k:=by omega
      subst e
      unfold LC
      omega⟩,by simp[intOf];omega⟩
    |skip
  have hkl:k=s.size:=by omega
  have hr:=lineB_yes (s:=s) ⟨by omega,by omega,fun i hi=>HL.out i hi (by omega)⟩
  clear hkl
  have HRR:=Hd hr
  clear hr
  go_wp2_with fail
  go_ret
  exact⟨by rw[HRR.out];rfl,rfl⟩
theorem rline_all (s:ByteArray) (w:World) (hs:s.size<9223372036854775808):Calls Tryz.prog 140 #[.string s] w fun e w'=>e=.returned (.bool (lineB s))∧w=w':=by
 go_enter Tryz.func140,Tryz.ntmps140
 go_wp2_with fail
 go_loop [3] (fun i=>∃ k:Nat,k≤s.size∧i=.int .i64 (k:Int)∧∀ j (hj:j<s.size),j<k→LC (s[j].toNat)) (fun i=>s.size-(intOf i).toNat)
 case atStart=>exact⟨0,Nat.zero_le _,rfl,fun j _ h=>absurd h (Nat.not_lt_zero j)⟩
 case round =>
  obtain⟨k,hk,rfl,hL⟩:=hrel
  have HL:=Hd hL
  clear hL
  by_cases hlt:k<s.size
  ·have hlt':(k:Int)<(s.size:Int):=by omega
   go_wp2_with fail
   all_goals try simp only[bne_iff_ne,ne_eq,bne_eq_false_iff_eq]at *
   all_goals first
    |(exfalso;omega)
    | (go_ret
       have hr:=lineB_no (s:=s) (fun h=>by have h3:=h.c k hlt;unfold LC at h3;omega)
       exact⟨by rw[hr];rfl,rfl⟩)
    | exact ⟨⟨k + 1, by omega, by simp, fun j hj hk2 => by
      rcases Nat.lt_or_ge j k with h |h
      ·exact HL.out j hj h
      have e:j=k:=by omega
      subst e
      unfold LC
      omega⟩,by simp[intOf];omega⟩
    |skip
  have hkl:k=s.size:=by omega
  by_cases h1:1≤s.size
  ·have g1:decide ((s.size:Int)≥1)=true:=decide_eq_true (by omega)
   by_cases h2:s.size≤64
   ·have g2:decide ((s.size:Int)≤64)=true:=decide_eq_true (by omega)
    have HRR:=Hd (lineB_yes (s:=s) ⟨h1,h2,fun i hi=>HL.out i hi (by omega)⟩)
    clear hkl
    go_wp2_with fail
    go_ret
    exact⟨by rw[HRR.out];rfl,rfl⟩
   have g2:decide ((s.size:Int)≤64)=false:=decide_eq_false (by omega)
   have HRR:=Hd (lineB_no (s:=s) (fun h=>by have:=h.m;omega))
   clear hkl
   go_wp2_with fail
   go_ret
   exact⟨by rw[HRR.out];rfl,rfl⟩
  have g1:decide ((s.size:Int)≥1)=false:=decide_eq_false (by omega)
  have HRR:=Hd (lineB_no (s:=s) (fun h=>by have:=h.l;omega))
  clear hkl
  go_wp2_with fail
  go_ret
  exact⟨by rw[HRR.out];rfl,rfl⟩
theorem rname_all (s:ByteArray) (w:World) (hs:s.size<9223372036854775808):Calls Tryz.prog 76 #[.string s] w fun e w'=>e=.returned (.bool (nameB s))∧w=w':=by
 go_enter Tryz.func76,Tryz.ntmps76
 go_wp2_with fail
 go_loop [3] (fun i=>∃ k:Nat,k≤s.size∧i=.int .i64 (k:Int)∧∀ j (hj:j<s.size),j<k→NC (s[j].toNat)) (fun i=>s.size-(intOf i).toNat)
 case atStart=>exact⟨0,Nat.zero_le _,rfl,fun j _ h=>absurd h (Nat.not_lt_zero j)⟩
 case round =>
  obtain⟨k,hk,rfl,hL⟩:=hrel
  have HL:=Hd hL
  clear hL
  by_cases hlt:k<s.size
  ·have hlt':(k:Int)<(s.size:Int):=by omega
   go_wp2_with fail
   all_goals try simp only[bne_iff_ne,ne_eq,bne_eq_false_iff_eq]at *
   all_goals first
    |(exfalso;omega)
    | (go_ret
       have hr:=nameB_no (s:=s) (fun h=>by have h3:=h.c k hlt;unfold NC at h3;omega)
       exact⟨by rw[hr];rfl,rfl⟩)
    | exact ⟨⟨k + 1, by omega, by simp, fun j hj hk2 => by
      rcases Nat.lt_or_ge j k with h |h
      ·exact HL.out j hj h
      have e:j=k:=by omega
      subst e
      unfold NC
      omega⟩,by simp[intOf];omega⟩
    |skip
  have hkl:k=s.size:=by omega
  by_cases h1:1≤s.size
  ·have g1:decide ((s.size:Int)≥1)=true:=decide_eq_true (by omega)
   by_cases h2:s.size≤32
   ·have g2:decide ((s.size:Int)≤32)=true:=decide_eq_true (by omega)
    have HRR:=Hd (nameB_yes (s:=s) ⟨h1,h2,fun i hi=>HL.out i hi (by omega)⟩)
    clear hkl
    go_wp2_with fail
    go_ret
    exact⟨by rw[HRR.out];rfl,rfl⟩
   have g2:decide ((s.size:Int)≤32)=false:=decide_eq_false (by omega)
   have HRR:=Hd (nameB_no (s:=s) (fun h=>by have:=h.m;omega))
   clear hkl
   go_wp2_with fail
   go_ret
   exact⟨by rw[HRR.out];rfl,rfl⟩
  have g1:decide ((s.size:Int)≥1)=false:=decide_eq_false (by omega)
  have HRR:=Hd (nameB_no (s:=s) (fun h=>by have:=h.l;omega))
  clear hkl
  go_wp2_with fail
  go_ret
  exact⟨by rw[HRR.out];rfl,rfl⟩
theorem rvalid_all (n d:Int) (w:World) (n0:-9223372036854775808≤n) (n1:n≤9223372036854775807) (d0:-9223372036854775808≤d) (d1:d≤9223372036854775807) :
  Calls Tryz.prog 160 #[.agg #[.int .i64 n,.int .i64 d]] w fun e w'=>e=.returned (.bool (validR n d))∧Below w.heap.size w w':=by
 by_cases h1:1≤d
 ·have e1:decide (d≥1)=true:=decide_eq_true h1
  by_cases h2:-9223372036854775808<n
  ·have e2:decide (n > -9223372036854775808)=true:=decide_eq_true h2
   have HO:=Hd (validR_yes h1 h2)
   obtain⟨y,rfl⟩:∃ y:Nat,d=y:=⟨d.toNat,by omega⟩
   have HG:=Hd (fun w=>rgcd_any n y w h2 (by omega) (by omega))
   go_enter Tryz.func160,Tryz.ntmps160
   go_wp2_with fail
   refine(HG.out _).mono ?_
   rintro e w2 ⟨rfl,m,hm⟩
   go_wp2_with fail
   go_ret
   refine⟨ret_bool ?_,by first |exact below_drewN (below_box w _) _ |(rw[hm];exact below_drewN (below_box w _) _)⟩
   rw[HO.out,Bool.eq_iff_iff,Int.toNat_natCast]
   simp
   omega
  have e2:decide (n > -9223372036854775808)=false:=decide_eq_false h2
  have HO:=Hd (validR_no (n:=n) (d:=d) (by omega))
  go_enter Tryz.func160,Tryz.ntmps160
  go_wp2_with fail
  go_ret
  exact⟨ret_bool HO.out.symm,below_box w _⟩
 have e1:decide (d≥1)=false:=decide_eq_false h1
 have HO:=Hd (validR_no (n:=n) (d:=d) (by omega))
 go_enter Tryz.func160,Tryz.ntmps160
 go_wp2_with fail
 go_ret
 exact⟨ret_bool HO.out.symm,below_box w _⟩
def bndB (n d M:Int):Bool:=validR n d&&(decide (d≤65536)&&(decide (-(M*d)≤n)&&decide (n≤M*d)))
theorem bounded_all (n d M:Int) (w:World) (n0:-9223372036854775808≤n) (n1:n≤9223372036854775807) (d0:-9223372036854775808≤d) (d1:d≤9223372036854775807) (M0:1≤M) (M1:M≤1099511627776) :
  Calls Tryz.prog 153 #[.agg #[.int .i64 n,.int .i64 d],.int .i64 M] w fun e w'=>e=.returned (.bool (bndB n d M))∧Below w.heap.size w w':=by
 have HV:=Hd (fun w=>valid_any n d w n0 n1 d0 d1)
 obtain⟨v,hv⟩:=Xq (validR n d)
 rw[← hv]at HV
 have HVV:=Hd hv
 clear hv
 cases v with
 |false=>
  have HR:=Hd (show bndB n d M=false by unfold bndB;rw[← HVV.out];rfl)
  go_enter Tryz.func153,Tryz.ntmps153
  go_wp2_with fail
  refine(HV.out _).mono ?_
  rintro e w2 ⟨rfl,hb⟩
  have HB:=Hd ((below_box w _).trans (hb.mono (by simp)))
  clear hb
  go_wp2_with fail
  go_ret
  exact⟨ret_bool HR.out.symm,HB.out⟩
 | true =>
  by_cases h2:d≤65536
  ·have e2:decide (d≤65536)=true:=decide_eq_true h2
   have h1:1≤d:=by
    rcases Int.lt_or_le d 1 with h |h
    ·have h3:=HVV.out;rw[validR_no (by omega)]at h3;cases h3
    exact h
   obtain⟨X,hX⟩:=Xq (M*d)
   have X0:1≤X:=by rw[hX];have:=Int.mul_le_mul M0 h1 (by omega) (by omega);omega
   have X1:X≤1099511627776*65536:=by rw[hX];exact Int.mul_le_mul M1 h2 (by omega) (by decide)
   have HR:=Hd (show bndB n d M=(decide (-X≤n)&&decide (n≤X)) by unfold bndB;rw[← HVV.out,← hX,e2];rfl)
   have hXn:-M*d=-X:=by rw[Int.neg_mul,hX]
   have hX2:M*d=X:=hX.symm
   clear hX
   go_enter Tryz.func153,Tryz.ntmps153
   go_wp2_with fail
   refine(HV.out _).mono ?_
   rintro e w2 ⟨rfl,hb⟩
   have HB:=Hd ((below_box w _).trans (hb.mono (by simp)))
   have k0:w2.cell? ⟨w.heap.size,0,none⟩=some (.int .i64 n):=(hb.cell (by simp)).trans (by simp[go_sem])
   have k1:w2.cell? ⟨w.heap.size,1,none⟩=some (.int .i64 d):=(hb.cell (by simp)).trans (by simp[go_sem])
   clear hb
   by_cases h3:-X≤n
   ·have e3:decide (n≥-X)=true:=decide_eq_true h3
    have HR2:=Hd (show bndB n d M=decide (n≤X) by rw[HR.out,decide_eq_true h3];rfl)
    go_wp2_with fail
    go_ret
    exact⟨ret_bool HR2.out.symm,HB.out⟩
   have e3:decide (n≥-X)=false:=decide_eq_false h3
   have HR2:=Hd (show bndB n d M=false by rw[HR.out,decide_eq_false h3];rfl)
   go_wp2_with fail
   go_ret
   exact⟨ret_bool HR2.out.symm,HB.out⟩
  have e2:decide (d≤65536)=false:=decide_eq_false h2
  have HR:=Hd (show bndB n d M=false by unfold bndB;rw[← HVV.out,e2];rfl)
  go_enter Tryz.func153,Tryz.ntmps153
  go_wp2_with fail
  refine(HV.out _).mono ?_
  rintro e w2 ⟨rfl,hb⟩
  have HB:=Hd ((below_box w _).trans (hb.mono (by simp)))
  have k1:w2.cell? ⟨w.heap.size,1,none⟩=some (.int .i64 d):=(hb.cell (by simp)).trans (by simp[go_sem])
  clear hb
  go_wp2_with fail
  go_ret
  exact⟨ret_bool HR.out.symm,HB.out⟩
structure SrcOK (s:Src):Prop where
 k:s.kind=1∨s.kind=2
 n:TextP NC 32 s.name
 ra:validR s.an s.ad=true
 rs:validR s.sn s.sd=true
 a0:-(1099511627776*s.ad)≤s.an
 a1:s.an≤1099511627776*s.ad
 s0:-(1024*s.sd)≤s.sn
 s1:s.sn≤1024*s.sd
 l:s.ad.toNat / Nat.gcd s.ad.toNat s.sd.toNat*s.sd.toNat≤65536
open Classical in
noncomputable def srcB (s:Src):Bool:=decide (s=black∨SrcOK s)
open Classical in
theorem srcB_yes {s:Src} (h:s=black∨SrcOK s):srcB s=true:=decide_eq_true h
open Classical in
theorem srcB_no {s:Src} (h:s≠black) (h2:¬SrcOK s):srcB s=false:=decide_eq_false (fun h3=>h3.elim h h2)
structure InS (s:Src):Prop where
 k0:-9223372036854775808≤s.kind
 k1:s.kind≤9223372036854775807
 n:s.name.size<9223372036854775808
 a0:-9223372036854775808≤s.an
 a1:s.an≤9223372036854775807
 b0:-9223372036854775808≤s.ad
 b1:s.ad≤9223372036854775807
 c0:-9223372036854775808≤s.sn
 c1:s.sn≤9223372036854775807
 d0:-9223372036854775808≤s.sd
 d1:s.sd≤9223372036854775807
theorem bndB_yes {n d M:Int} (h:bndB n d M=true):validR n d=true∧d≤65536∧-(M*d)≤n∧n≤M*d:=by
 unfold bndB at h
 simp only[Bool.and_eq_true,decide_eq_true_eq]at h
 exact⟨h.1,h.2.1,h.2.2.1,h.2.2.2⟩
theorem validR_den {n d:Int} (h:validR n d=true):1≤d:=by
 rcases Int.lt_or_le d 1 with h1 |h1
 ·rw[validR_no (by omega)]at h;cases h
 exact h1
theorem base_le {a d:Nat} (ha:1≤a) (hd:1≤d) (h:a / Nat.gcd a d*d≤65536):a≤65536∧d≤65536:=by
 have hv:=dvd_base ha hd
 have h0:1≤a / Nat.gcd a d:=Nat.div_pos (Nat.gcd_le_left _ ha) (Nat.gcd_pos_of_pos_left _ ha)
 have h1:0<a / Nat.gcd a d*d:=Nat.mul_pos h0 hd
 exact⟨Nat.le_trans (Nat.le_of_dvd h1 hv.1) h,Nat.le_trans (Nat.le_of_dvd h1 hv.2) h⟩
theorem SrcOK.bnd {s:Src} (h:SrcOK s):bndB s.an s.ad 1099511627776=true∧bndB s.sn s.sd 1024=true:=by
 have a:=validR_den h.ra
 have b:=validR_den h.rs
 have c:=base_le (a:=s.ad.toNat) (d:=s.sd.toNat) (by omega) (by omega) h.l
 unfold bndB
 rw[h.ra,h.rs,decide_eq_true (show s.ad≤65536 by omega),decide_eq_true (show s.sd≤65536 by omega),decide_eq_true h.a0,decide_eq_true h.a1,decide_eq_true h.s0,decide_eq_true h.s1]
 exact⟨rfl,rfl⟩
theorem vsource_five (K0:Int) (hK:K0=1∨K0=2) (nm:ByteArray) (an ad sn sd:Int) (sm:Bool) (w:World) (hr:InS ⟨K0,nm,an,ad,sn,sd,sm⟩) (hn:TextP NC 32 nm) :
  Calls Tryz.prog 134 #[.agg #[.int .i64 K0,.string nm,.int .i64 an,.int .i64 ad,.int .i64 sn,.int .i64 sd,.bool sm]] w fun e w'=>e=.returned (.bool (srcB ⟨K0,nm,an,ad,sn,sd,sm⟩))∧Below w.heap.size w w':=by
 have hbk:(⟨K0,nm,an,ad,sn,sd,sm⟩:Src)≠black:=by
  intro e
  have:=congrArg Src.kind e
  simp only[black]at this
  omega
 have HN:=Hd (fun w=>name_all nm w hr.n)
 rw[nameB_yes hn]at HN
 have HA:=Hd (fun w=>bounded_all an ad 1099511627776 w hr.a0 hr.a1 hr.b0 hr.b1 (by decide) (by decide))
 have HS:=Hd (fun w=>bounded_all sn sd 1024 w hr.c0 hr.c1 hr.d0 hr.d1 (by decide) (by decide))
 obtain⟨R,hR⟩:=Xq (srcB ⟨K0,nm,an,ad,sn,sd,sm⟩)
 rw[← hR]
 have HRR:=Hd hR
 have hne:=run_eq_src ⟨K0,nm,an,ad,sn,sd,sm⟩ black
 rw[decide_eq_false hbk]at hne
 have HNE:=Hd hne
 have HBK:=Hd hbk
 clear hne hR hr hbk
 go_enter Tryz.func134,Tryz.ntmps134
 go_upto_region 1 with fail
 obtain⟨w1,hw1⟩:=Xq (w.alloc (.cells #[.int .i64 K0,.string nm,.int .i64 an,.int .i64 ad,.int .i64 sn,.int .i64 sd,.bool sm] 46))
 rw[← hw1]
 have hb1:Below w.heap.size w w1:=by rw[hw1];exact below_box _ _
 obtain⟨b,hb⟩:=Xq (w.heap.size)
 have c0:C7 w1 b 0 (.int .i64 K0) (.string nm) (.int .i64 an) (.int .i64 ad) (.int .i64 sn) (.int .i64 sd) (.bool sm):=by rw[hw1,hb];constructor<;>simp[go_sem]
 rw[← hb]
 have HB:=Hd hb1
 have HC:=Hd c0
 clear hw1 hb1
 obtain⟨x0,x1,x2,x3,x4,x5,x6⟩:=c0.at0
 have hq:=HNE.out w1
 simp only[black]at hq
 clear c0 hb
 have hk12:Hid (K0=1∨K0=2):=Hd hK
 have HW:Hid ((K0 != 1)=false∨((K0 != 1)=true∧(K0 != 2)=false)):=Hd (by
  rcases hK with h |h
  ·exact .inl (by simp[h])
  exact .inr ⟨by simp[h],by simp[h]⟩)
 have h00:¬K0=0:=by omega
 have h01:(K0==0)=false:=by simp[h00]
 clear hK
 rcases HW.out with h1 |⟨h1,h2⟩
 all_goals
  go_upto_region 5 with(go_at_call 114;refine(HN.out _).mono ?_;rintro e w' ⟨rfl,rfl⟩)
  clear x0 x1 x2 x3 x4 x5 x6 hq HNE HN h1 HW
  cases hv1:bndB an ad 1099511627776 with
  | false =>
   rw[hv1]at HA
   have HRF:=Hd (HRR.out.trans (srcB_no HBK.out (fun h=>by have:=h.bnd.1;simp only at this;rw[hv1]at this;cases this)))
   clear hv1
   refine Plan.wp_region_plan (fun w'=>C7 w' b 0 (.int .i64 K0) (.string nm) (.int .i64 an) (.int .i64 ad) (.int .i64 sn) (.int .i64 sd) (.bool sm)) (([0,1].map (·,true))++(([2].map (·,false))++(([3,4,5].map (·,true))++(([6].map (·,false))++(([7,8,9,10,11,12,13,14,15,16,17,20,21,22].map (·,true))++(([18].map (·,false))++([19,23,24,25,26].map (·,true)))))))) (by kernel_rfl) (by kernel_rfl) (by kernel_rfl) (HC.out.below (Below.refl _ _).drew) ?_
   obtain⟨w2,hw2⟩:=Xq (w1.drew)
   rw[← hw2]
   have hb:Below w1.heap.size w1 w2:=by rw[hw2];exact(Below.refl _ _).drew
   replace HC:=Hd (HC.out.below hb)
   replace HB:=Tb HB hb
   clear hb hw2
   refine' Plan.plan_seg _ [0,1] (([2].map (·,false))++(([3,4,5].map (·,true))++(([6].map (·,false))++(([7,8,9,10,11,12,13,14,15,16,17,20,21,22].map (·,true))++(([18].map (·,false))++([19,23,24,25,26].map (·,true))))))) (by kernel_rfl) (by kernel_rfl) rfl (by exact HC.out) (fun wx hS=>?_) ?_
   rotate_left
   ·obtain⟨x0,x1,x2,x3,x4,x5,x6⟩:=hS.at0
    clear hS
    go_light
    iterate 2 (apply Plan.seg_pick;rfl;intro K hK;go_wp)
    exact Plan.seg_nil
   refine Plan.plan_of_effect rfl (fun K hK=>?_)
   go_wp2_with fail
   refine(HA.out _).mono ?_
   rintro e w3 ⟨rfl,hb⟩
   replace HC:=Hd (HC.out.below hb)
   replace HB:=Tb HB hb
   clear hb
   go_wp2_with fail
   refine⟨HC.out,?_⟩
   refine' Plan.plan_seg _ [3,4,5] (([6].map (·,false))++(([7,8,9,10,11,12,13,14,15,16,17,20,21,22].map (·,true))++(([18].map (·,false))++([19,23,24,25,26].map (·,true))))) (by kernel_rfl) (by kernel_rfl) rfl (by exact HC.out) (fun wx hS=>?_) ?_
   rotate_left
   ·obtain⟨x0,x1,x2,x3,x4,x5,x6⟩:=hS.at0
    clear hS
    go_light
    iterate 3 (apply Plan.seg_pick;rfl;intro K hK;go_wp)
    exact Plan.seg_nil
   refine Plan.plan_of_effect rfl (fun K hK=>?_)
   go_wp2_with fail
   refine⟨HC.out,?_⟩
   refine' Plan.plan_seg _ [7,8,9,10,11,12,13,14,15,16,17,20,21,22] (([18].map (·,false))++([19,23,24,25,26].map (·,true))) (by kernel_rfl) (by kernel_rfl) rfl (by exact HC.out) (fun wx hS=>?_) ?_
   rotate_left
   ·obtain⟨x0,x1,x2,x3,x4,x5,x6⟩:=hS.at0
    clear hS
    go_light
    iterate 14 (apply Plan.seg_pick;rfl;intro K hK;go_wp)
    exact Plan.seg_nil
   refine Plan.plan_of_effect rfl (fun K hK=>?_)
   go_wp2_with fail
   refine⟨HC.out,?_⟩
   refine' Plan.plan_seg _ [19,23,24,25,26] [] (by kernel_rfl) (by kernel_rfl) rfl (by exact HC.out) (fun wx hS=>?_) ?_
   rotate_left
   ·obtain⟨x0,x1,x2,x3,x4,x5,x6⟩:=hS.at0
    clear hS
    go_light
    iterate 5 (apply Plan.seg_pick;rfl;intro K hK;go_wp)
    exact Plan.seg_nil
   refine Plan.plan_done ?_
   go_wp2_with fail
   go_ret
   exact⟨ret_bool HRF.out.symm,HB.out⟩
  | true =>
   rw[hv1]at HA
   cases hv2:bndB sn sd 1024 with
   | false =>
    rw[hv2]at HS
    have HRF:=Hd (HRR.out.trans (srcB_no HBK.out (fun h=>by have:=h.bnd.2;simp only at this;rw[hv2]at this;cases this)))
    clear hv1 hv2
    refine Plan.wp_region_plan (fun w'=>C7 w' b 0 (.int .i64 K0) (.string nm) (.int .i64 an) (.int .i64 ad) (.int .i64 sn) (.int .i64 sd) (.bool sm)) (([0,1].map (·,true))++(([2].map (·,false))++(([3,4,5].map (·,true))++(([6].map (·,false))++(([7,8,9,10,11,12,13,14,15,16,17,20,21,22].map (·,true))++(([18].map (·,false))++([19,23,24,25,26].map (·,true)))))))) (by kernel_rfl) (by kernel_rfl) (by kernel_rfl) (HC.out.below (Below.refl _ _).drew) ?_
    obtain⟨w2,hw2⟩:=Xq (w1.drew)
    rw[← hw2]
    have hb:Below w1.heap.size w1 w2:=by rw[hw2];exact(Below.refl _ _).drew
    replace HC:=Hd (HC.out.below hb)
    replace HB:=Tb HB hb
    clear hb hw2
    refine' Plan.plan_seg _ [0,1] (([2].map (·,false))++(([3,4,5].map (·,true))++(([6].map (·,false))++(([7,8,9,10,11,12,13,14,15,16,17,20,21,22].map (·,true))++(([18].map (·,false))++([19,23,24,25,26].map (·,true))))))) (by kernel_rfl) (by kernel_rfl) rfl (by exact HC.out) (fun wx hS=>?_) ?_
    rotate_left
    ·obtain⟨x0,x1,x2,x3,x4,x5,x6⟩:=hS.at0
     clear hS
     go_light
     iterate 2 (apply Plan.seg_pick;rfl;intro K hK;go_wp)
     exact Plan.seg_nil
    refine Plan.plan_of_effect rfl (fun K hK=>?_)
    go_wp2_with fail
    refine(HA.out _).mono ?_
    rintro e w3 ⟨rfl,hb⟩
    replace HC:=Hd (HC.out.below hb)
    replace HB:=Tb HB hb
    clear hb
    go_wp2_with fail
    refine⟨HC.out,?_⟩
    refine' Plan.plan_seg _ [3,4,5] (([6].map (·,false))++(([7,8,9,10,11,12,13,14,15,16,17,20,21,22].map (·,true))++(([18].map (·,false))++([19,23,24,25,26].map (·,true))))) (by kernel_rfl) (by kernel_rfl) rfl (by exact HC.out) (fun wx hS=>?_) ?_
    rotate_left
    ·obtain⟨x0,x1,x2,x3,x4,x5,x6⟩:=hS.at0
     clear hS
     go_light
     iterate 3 (apply Plan.seg_pick;rfl;intro K hK;go_wp)
     exact Plan.seg_nil
    refine Plan.plan_of_effect rfl (fun K hK=>?_)
    go_wp2_with fail
    refine(HS.out _).mono ?_
    rintro e w4 ⟨rfl,hb⟩
    replace HC:=Hd (HC.out.below hb)
    replace HB:=Tb HB hb
    clear hb
    go_wp2_with fail
    refine⟨HC.out,?_⟩
    refine' Plan.plan_seg _ [7,8,9,10,11,12,13,14,15,16,17,20,21,22] (([18].map (·,false))++([19,23,24,25,26].map (·,true))) (by kernel_rfl) (by kernel_rfl) rfl (by exact HC.out) (fun wx hS=>?_) ?_
    rotate_left
    ·obtain⟨x0,x1,x2,x3,x4,x5,x6⟩:=hS.at0
     clear hS
     go_light
     iterate 14 (apply Plan.seg_pick;rfl;intro K hK;go_wp)
     exact Plan.seg_nil
    refine Plan.plan_of_effect rfl (fun K hK=>?_)
    go_wp2_with fail
    refine⟨HC.out,?_⟩
    refine' Plan.plan_seg _ [19,23,24,25,26] [] (by kernel_rfl) (by kernel_rfl) rfl (by exact HC.out) (fun wx hS=>?_) ?_
    rotate_left
    ·obtain⟨x0,x1,x2,x3,x4,x5,x6⟩:=hS.at0
     clear hS
     go_light
     iterate 5 (apply Plan.seg_pick;rfl;intro K hK;go_wp)
     exact Plan.seg_nil
    refine Plan.plan_done ?_
    go_wp2_with fail
    go_ret
    exact⟨ret_bool HRF.out.symm,HB.out⟩
   | true =>
    rw[hv2]at HS
    obtain⟨ra,a1,a2,a3⟩:=bndB_yes hv1
    obtain⟨rs,s1,s2,s3⟩:=bndB_yes hv2
    have da:=validR_den ra
    have ds:=validR_den rs
    obtain⟨x,rfl⟩:=Int.eq_ofNat_of_zero_le (show 0≤ad by omega)
    obtain⟨y,rfl⟩:=Int.eq_ofNat_of_zero_le (show 0≤sd by omega)
    have HD:=Hd (fun w=>divisor_any x y w (by omega) (by omega))
    obtain⟨g,hg⟩:=Xq (Nat.gcd x y)
    rw[← hg]at HD
    have hg0:1≤g:=by rw[hg];exact Nat.gcd_pos_of_pos_left _ (by omega)
    obtain⟨z,hz⟩:=Xq (x / g)
    have hz1:z≤65536:=by rw[hz];exact Nat.le_trans (Nat.div_le_self _ _) (by omega)
    have hzi:(x:Int) / (g:Int)=(z:Int):=by rw[hz];exact(Int.natCast_ediv x g).symm
    obtain⟨L,hL⟩:=Xq (z*y)
    have hL1:L≤65536*65536:=by rw[hL];exact Nat.mul_le_mul hz1 (by omega)
    have hLi:(z:Int)*(y:Int)=(L:Int):=by rw[hL];exact(Int.natCast_mul z y).symm
    have hgz:¬(g:Int)=0:=by omega
    have HRF:=Hd (show R=decide ((L:Int)≤65536) from by
     rw[HRR.out]
     by_cases hh:L≤65536
     ·rw[decide_eq_true (show(L:Int)≤65536 by omega)]
      exact srcB_yes (.inr ⟨hk12.out,hn,ra,rs,a2,a3,s2,s3,by simp only[Int.toNat_natCast];rw[← hg,← hz,← hL];exact hh⟩)
     rw[decide_eq_false (show ¬(L:Int)≤65536 by omega)]
     exact srcB_no HBK.out (fun h=>hh (by have:=h.l;simp only[Int.toNat_natCast]at this;rw[← hg,← hz,← hL]at this;exact this)))
    clear hv1 hv2 hg hz hL ra rs a2 a3 s2 s3
    refine Plan.wp_region_plan (fun w'=>C7 w' b 0 (.int .i64 K0) (.string nm) (.int .i64 an) (.int .i64 (x:Int)) (.int .i64 sn) (.int .i64 (y:Int)) (.bool sm)) (([0,1].map (·,true))++(([2].map (·,false))++(([3,4,5].map (·,true))++(([6].map (·,false))++(([7,8,9,10,11,12,13,14,15,16,17,20,21,22].map (·,true))++(([18].map (·,false))++([19,23,24,25,26].map (·,true)))))))) (by kernel_rfl) (by kernel_rfl) (by kernel_rfl) (HC.out.below (Below.refl _ _).drew) ?_
    obtain⟨w2,hw2⟩:=Xq (w1.drew)
    rw[← hw2]
    have hb:Below w1.heap.size w1 w2:=by rw[hw2];exact(Below.refl _ _).drew
    replace HC:=Hd (HC.out.below hb)
    replace HB:=Tb HB hb
    clear hb hw2
    refine' Plan.plan_seg _ [0,1] (([2].map (·,false))++(([3,4,5].map (·,true))++(([6].map (·,false))++(([7,8,9,10,11,12,13,14,15,16,17,20,21,22].map (·,true))++(([18].map (·,false))++([19,23,24,25,26].map (·,true))))))) (by kernel_rfl) (by kernel_rfl) rfl (by exact HC.out) (fun wx hS=>?_) ?_
    rotate_left
    ·obtain⟨x0,x1,x2,x3,x4,x5,x6⟩:=hS.at0
     clear hS
     go_light
     iterate 2 (apply Plan.seg_pick;rfl;intro K hK;go_wp)
     exact Plan.seg_nil
    refine Plan.plan_of_effect rfl (fun K hK=>?_)
    go_wp2_with fail
    refine(HA.out _).mono ?_
    rintro e w3 ⟨rfl,hb⟩
    replace HC:=Hd (HC.out.below hb)
    replace HB:=Tb HB hb
    clear hb
    go_wp2_with fail
    refine⟨HC.out,?_⟩
    refine' Plan.plan_seg _ [3,4,5] (([6].map (·,false))++(([7,8,9,10,11,12,13,14,15,16,17,20,21,22].map (·,true))++(([18].map (·,false))++([19,23,24,25,26].map (·,true))))) (by kernel_rfl) (by kernel_rfl) rfl (by exact HC.out) (fun wx hS=>?_) ?_
    rotate_left
    ·obtain⟨x0,x1,x2,x3,x4,x5,x6⟩:=hS.at0
     clear hS
     go_light
     iterate 3 (apply Plan.seg_pick;rfl;intro K hK;go_wp)
     exact Plan.seg_nil
    refine Plan.plan_of_effect rfl (fun K hK=>?_)
    go_wp2_with fail
    refine(HS.out _).mono ?_
    rintro e w4 ⟨rfl,hb⟩
    replace HC:=Hd (HC.out.below hb)
    replace HB:=Tb HB hb
    clear hb
    go_wp2_with fail
    refine⟨HC.out,?_⟩
    refine' Plan.plan_seg _ [7,8,9,10,11,12,13,14,15,16,17,20,21,22] (([18].map (·,false))++([19,23,24,25,26].map (·,true))) (by kernel_rfl) (by kernel_rfl) rfl (by exact HC.out) (fun wx hS=>?_) ?_
    rotate_left
    ·obtain⟨x0,x1,x2,x3,x4,x5,x6⟩:=hS.at0
     clear hS
     go_light
     iterate 14 (apply Plan.seg_pick;rfl;intro K hK;go_wp)
     exact Plan.seg_nil
    refine Plan.plan_of_effect rfl (fun K hK=>?_)
    go_wp2_with fail
    refine(HD.out _).mono ?_
    rintro e w5 ⟨rfl,m,hm⟩
    have hb:Below w4.heap.size w4 w5:=by rw[hm];exact below_drewN (Below.refl _ _) _
    clear hm
    replace HC:=Hd (HC.out.below hb)
    replace HB:=Tb HB hb
    clear hb
    go_wp2_with fail
    refine⟨HC.out,?_⟩
    refine' Plan.plan_seg _ [19,23,24,25,26] [] (by kernel_rfl) (by kernel_rfl) rfl (by exact HC.out) (fun wx hS=>?_) ?_
    rotate_left
    ·obtain⟨x0,x1,x2,x3,x4,x5,x6⟩:=hS.at0
     clear hS
     go_light
     iterate 5 (apply Plan.seg_pick;rfl;intro K hK;go_wp)
     exact Plan.seg_nil
    refine Plan.plan_done ?_
    go_wp2_with fail
    go_ret
    exact⟨ret_bool HRF.out.symm,HB.out⟩
theorem vsource_all (s:Src) (w:World) (hr:InS s):Calls Tryz.prog 134 #[srcV s] w fun e w'=>e=.returned (.bool (srcB s))∧Below w.heap.size w w':=by
 have HQ:=fun w=>run_eq_src s black w
 simp only[black,show(ByteArray.empty:ByteArray)=⟨#[]⟩ from rfl]at HQ
 obtain⟨k,nm,an,ad,sn,sd,sm⟩:=s
 by_cases hb:(⟨k,nm,an,ad,sn,sd,sm⟩:Src)=black
 ·have HR:=Hd (srcB_yes (.inl hb))
  have hq2:∀ w:World,_:=HQ
  simp only[show(ByteArray.empty:ByteArray)=⟨#[]⟩ from rfl,black]at hb
  rw[decide_eq_true hb]at HQ
  clear hq2 hb
  show Calls Tryz.prog 134 #[.agg #[.int .i64 k,.string nm,.int .i64 an,.int .i64 ad,.int .i64 sn,.int .i64 sd,.bool sm]] w _
  go_enter Tryz.func134,Tryz.ntmps134
  go_wp2_with fail
  go_ret
  exact⟨ret_bool HR.out.symm,below_box w _⟩
 have hb':=hb
 simp only[show(ByteArray.empty:ByteArray)=⟨#[]⟩ from rfl,black]at hb'
 rw[decide_eq_false hb']at HQ
 by_cases hk:k=1∨k=2
 ·by_cases hn:TextP NC 32 nm
  ·exact vsource_five k hk nm an ad sn sd sm w hr hn
  have HR:=Hd (srcB_no hb (fun h=>hn h.n))
  have HN:=Hd (fun w=>name_all nm w hr.n)
  rw[nameB_no hn]at HN
  have HW:Hid ((k != 1)=false∨((k != 1)=true∧(k != 2)=false)):=Hd (by
   rcases hk with h |h
   ·exact .inl (by simp[h])
   exact .inr ⟨by simp[h],by simp[h]⟩)
  clear hb hb' hr hn hk
  show Calls Tryz.prog 134 #[.agg #[.int .i64 k,.string nm,.int .i64 an,.int .i64 ad,.int .i64 sn,.int .i64 sd,.bool sm]] w _
  rcases HW.out with h1 |⟨h1,h2⟩
  all_goals
   go_enter Tryz.func134,Tryz.ntmps134
   go_wp2_with fail
   refine(HN.out _).mono ?_
   rintro e w' ⟨rfl,rfl⟩
   go_wp2_with fail
   go_ret
   exact⟨ret_bool HR.out.symm,below_box w _⟩
 have HR:=Hd (srcB_no hb (fun h=>hk h.k))
 have h1:(k != 1)=true:=by simp;omega
 have h2:(k != 2)=true:=by simp;omega
 clear hb hb' hr hk
 show Calls Tryz.prog 134 #[.agg #[.int .i64 k,.string nm,.int .i64 an,.int .i64 ad,.int .i64 sn,.int .i64 sd,.bool sm]] w _
 go_enter Tryz.func134,Tryz.ntmps134
 go_wp2_with fail
 go_ret
 exact⟨ret_bool HR.out.symm,below_box w _⟩
theorem withinN_iff {n d m:Nat} (hd:1≤d):withinN n d m=true↔n≤m*d:=by
 unfold withinN
 simp only[Bool.or_eq_true,Bool.and_eq_true,decide_eq_true_eq]
 have h1:=Nat.div_add_mod n d
 have h2:=Nat.mod_lt n (show 0<d by omega)
 constructor
 ·rintro(h |⟨h,h3⟩)
  ·have h4:(n / d+1)*d≤m*d:=Nat.mul_le_mul_right d h
   rw[Nat.add_mul,Nat.one_mul,Nat.mul_comm]at h4
   omega
  rw[h,h3,Nat.mul_comm]at h1
  omega
 intro h
 have h3:n / d≤m:=Nat.div_le_of_le_mul (by rw[Nat.mul_comm];exact h)
 rcases Nat.lt_or_ge (n / d) m with h4 |h4
 ·exact .inl h4
 have h5:n / d=m:=by omega
 refine .inr ⟨h5,?_⟩
 rw[h5,Nat.mul_comm]at h1
 omega
theorem withinN_int {n:Int} {d:Nat} {m:Nat} (hd:1≤d):withinN n.natAbs d m=true↔-((m:Int)*(d:Int))≤n∧n≤(m:Int)*(d:Int):=by
 rw[withinN_iff hd]
 obtain⟨X,hX⟩:=Xq (m*d)
 have hXi:(m:Int)*(d:Int)=(X:Int):=by rw[hX];exact(Int.natCast_mul m d).symm
 rw[← hX,hXi]
 omega
theorem base_iff {a d:Nat} (ha:1≤a) (hd:1≤d):(1≤baseN a d∧baseN a d≤65536)↔a / Nat.gcd a d*d≤65536:=by
 have h0:1≤a / Nat.gcd a d:=Nat.div_pos (Nat.gcd_le_left _ ha) (Nat.gcd_pos_of_pos_left _ ha)
 have hp:1≤a / Nat.gcd a d*d:=Nat.mul_pos h0 hd
 unfold baseN
 split
 ·rename_i h
  constructor
  ·intro h2;omega
  intro h2
  have:=base_le ha hd h2
  omega
 split
 ·rename_i h1 h2
  constructor
  ·intro h3;omega
  intro h3
  have h4:=(Nat.div_lt_iff_lt_mul (show 0<d by omega)).1 h2
  omega
 constructor
 ·exact fun h=>h.2
 exact fun h=>⟨hp,h⟩
theorem rsource_all (s : Src) (w : World) (hr : InS s) : Calls Tryz.prog 138 #[srcV s] w fun e w' => e = .returned (.bool (srcB s)) ∧ Below w.heap.size w w' := by
 have HBK:=Hd (fun w=>rblack_any s w)
 obtain⟨k,nm,an,ad,sn,sd,sm⟩:=s
 have HIN:=Hd hr
 have HNM:=Hd (fun w=>rname_all nm w hr.n)
 have HV1:=Hd (fun w=>rvalid_all an ad w hr.a0 hr.a1 hr.b0 hr.b1)
 have HV2:=Hd (fun w=>rvalid_all sn sd w hr.c0 hr.c1 hr.d0 hr.d1)
 obtain⟨R,hR⟩:=Xq (srcB ⟨k,nm,an,ad,sn,sd,sm⟩)
 rw[← hR]
 have HR:=Hd hR
 clear hR hr
 obtain⟨bl,hbl⟩:=Xq (decide ((⟨k,nm,an,ad,sn,sd,sm⟩:Src)=black))
 rw[← hbl]at HBK
 have HBL:=Hd hbl
 clear hbl
 replace HBK:Hid (∀ w,Calls Tryz.prog 139 #[.agg #[.int .i64 k,.string nm,.int .i64 an,.int .i64 ad,.int .i64 sn,.int .i64 sd,.bool sm]] w fun e w'=>e=.returned (.bool bl)∧Below w.heap.size w w'):=HBK
 show Calls Tryz.prog 138 #[.agg #[.int .i64 k,.string nm,.int .i64 an,.int .i64 ad,.int .i64 sn,.int .i64 sd,.bool sm]] w _
 go_enter Tryz.func138,Tryz.ntmps138
 go_upto_region 1 with fail
 obtain⟨w1,hw1⟩:=Xq (w.alloc (.cells #[.int .i64 k,.string nm,.int .i64 an,.int .i64 ad,.int .i64 sn,.int .i64 sd,.bool sm] 46))
 rw[← hw1]
 have hb1:Below w.heap.size w w1:=by rw[hw1];exact below_box _ _
 obtain⟨b,hb⟩:=Xq (w.heap.size)
 have c0:C7 w1 b 0 (.int .i64 k) (.string nm) (.int .i64 an) (.int .i64 ad) (.int .i64 sn) (.int .i64 sd) (.bool sm):=by rw[hw1,hb];constructor<;>simp[go_sem]
 rw[← hb]
 have HB:=Hd hb1
 have HC:=Hd c0
 clear hw1 hb1 c0 hb
 obtain⟨x0,x1,x2,x3,x4,x5,x6⟩:=HC.out.at0
 go_wp2_with fail
 refine(HBK.out _).mono ?_
 rintro e w2 ⟨rfl,hb⟩
 replace HC:=Hd (HC.out.below hb)
 replace HB:=Tb HB hb
 clear hb
 clear x0 x1 x2 x3 x4 x5 x6
 cases hbl:bl with
 |true=>
  have HRR:=Hd (HR.out.trans (srcB_yes (.inl (of_decide_eq_true (HBL.out.symm.trans hbl)))))
  clear hbl
  obtain⟨x0,x1,x2,x3,x4,x5,x6⟩:=HC.out.at0
  go_wp2_with fail
  go_ret
  exact⟨ret_bool (HRR.out).symm,HB.out⟩
 | false =>
  have hnb:=of_decide_eq_false (HBL.out.symm.trans hbl)
  have HNB:=Hd hnb
  clear hbl hnb
  by_cases hk:k=1∨k=2
  rotate_left
  ·have HRR:=Hd (HR.out.trans (srcB_no HNB.out (fun h=>hk h.k)))
   have h1:(k != 1)=true:=by simp;omega
   have h2:(k != 2)=true:=by simp;omega
   clear hk
   obtain⟨x0,x1,x2,x3,x4,x5,x6⟩:=HC.out.at0
   go_wp2_with fail
   go_ret
   exact⟨ret_bool (HRR.out).symm,HB.out⟩
  have HK:=Hd hk
  have HW:Hid ((k != 1)=false∨((k != 1)=true∧(k != 2)=false)):=Hd (by
   rcases hk with h |h
   ·exact .inl (by simp[h])
   exact .inr ⟨by simp[h],by simp[h]⟩)
  clear hk
  rcases HW.out with h1 |⟨h1,h2⟩
  all_goals
   obtain⟨x0,x1,x2,x3,x4,x5,x6⟩:=HC.out.at0
   go_wp2_with fail
   refine(HNM.out _).mono ?_
   rintro e w' ⟨rfl,rfl⟩
   clear x0 x1 x2 x3 x4 x5 x6
   by_cases hn:TextP NC 32 nm
   rotate_left
   ·rw[nameB_no hn]
    have HRR:=Hd (HR.out.trans (srcB_no HNB.out (fun h=>hn h.n)))
    clear hn
    obtain⟨x0,x1,x2,x3,x4,x5,x6⟩:=HC.out.at0
    go_wp2_with fail
    go_ret
    exact⟨ret_bool (HRR.out).symm,HB.out⟩
   rw[nameB_yes hn]
   have HN:=Hd hn
   clear hn
   obtain⟨x0,x1,x2,x3,x4,x5,x6⟩:=HC.out.at0
   go_wp2_with fail
   refine(HV1.out _).mono ?_
   rintro e w3 ⟨rfl,hb⟩
   replace HC:=Hd (HC.out.below hb)
   replace HB:=Tb HB hb
   clear hb
   clear x0 x1 x2 x3 x4 x5 x6
   cases hv1:validR an ad with
   |false=>
    have HRR:=Hd (HR.out.trans (srcB_no HNB.out (fun h=>by have:=h.ra;simp only at this;rw[hv1]at this;cases this)))
    clear hv1
    obtain⟨x0,x1,x2,x3,x4,x5,x6⟩:=HC.out.at0
    go_wp2_with fail
    go_ret
    exact⟨ret_bool (HRR.out).symm,HB.out⟩
   | true =>
    have HA:=Hd hv1
    clear hv1
    obtain⟨x0,x1,x2,x3,x4,x5,x6⟩:=HC.out.at0
    go_wp2_with fail
    refine(HV2.out _).mono ?_
    rintro e w4 ⟨rfl,hb⟩
    replace HC:=Hd (HC.out.below hb)
    replace HB:=Tb HB hb
    clear hb
    clear x0 x1 x2 x3 x4 x5 x6
    cases hv2:validR sn sd with
    |false=>
     have HRR:=Hd (HR.out.trans (srcB_no HNB.out (fun h=>by have:=h.rs;simp only at this;rw[hv2]at this;cases this)))
     clear hv2
     obtain⟨x0,x1,x2,x3,x4,x5,x6⟩:=HC.out.at0
     go_wp2_with fail
     go_ret
     exact⟨ret_bool (HRR.out).symm,HB.out⟩
    | true =>
     have HS:=Hd hv2
     clear hv2
     have da:=validR_den HA.out
     have ds:=validR_den HS.out
     have an0:-9223372036854775808<an:=by
      rcases Int.lt_or_le (-9223372036854775808) an with h |h
      ·exact h
      have:=HA.out;rw[validR_no (by omega)]at this;cases this
     have sn0:-9223372036854775808<sn:=by
      rcases Int.lt_or_le (-9223372036854775808) sn with h |h
      ·exact h
      have:=HS.out;rw[validR_no (by omega)]at this;cases this
     obtain⟨x,rfl⟩:=Int.eq_ofNat_of_zero_le (show 0≤ad by omega)
     obtain⟨y,rfl⟩:=Int.eq_ofNat_of_zero_le (show 0≤sd by omega)
     have HI1:=HIN.out.a1
     have HI2:=HIN.out.b1
     have HI3:=HIN.out.c1
     have HI4:=HIN.out.d1
     simp only at HI1 HI2 HI3 HI4
     have HWA:=Hd (fun w=>rwithin_any an x 1099511627776 w an0 (by omega) (by omega) (by omega) (by decide))
     have HWS:=Hd (fun w=>rwithin_any sn y 1024 w sn0 (by omega) (by omega) (by omega) (by decide))
     have HBA:=Hd (fun w=>base_any k nm an sn x y sm w (by omega) (by omega) (by omega) (by omega))
     have HIA:=Hd (withinN_int (n:=an) (d:=x) (m:=1099511627776) (by omega))
     have HIS:=Hd (withinN_int (n:=sn) (d:=y) (m:=1024) (by omega))
     have HIB:=Hd (base_iff (a:=x) (d:=y) (by omega) (by omega))
     clear HI1 HI2 HI3 HI4 an0 sn0 da ds
     obtain⟨q1,hq1⟩:=Xq (withinN an.natAbs x 1099511627776)
     obtain⟨q2,hq2⟩:=Xq (withinN sn.natAbs y 1024)
     obtain⟨B,hB⟩:=Xq (baseN x y)
     rw[← hq1]at HWA HIA
     rw[← hq2]at HWS HIS
     rw[← hB]at HBA HIB
     have HBB:=Hd (show B≤4294967296 from by
      rw[hB]
      unfold baseN
      split
      ·omega
      split
      ·omega
      rename_i h1 h2
      have h3:x / Nat.gcd x y≤4294967296 / y:=by omega
      exact Nat.le_trans (Nat.mul_le_mul_right y h3) (Nat.div_mul_le_self _ _))
     clear hq1 hq2 hB
     go_upto_region 5 with fail
     obtain⟨x0,x1,x2,x3,x4,x5,x6⟩:=HC.out.at0
     go_wp2_with fail
     refine(HWA.out _).mono ?_
     rintro e w5 ⟨rfl,hb⟩
     replace HC:=Hd (HC.out.below hb)
     replace HB:=Tb HB hb
     clear hb
     clear x0 x1 x2 x3 x4 x5 x6
     cases hq1:q1 with
     |false=>
      have HRR:=Hd (HR.out.trans (srcB_no HNB.out (fun h=>by have:=HIA.out.2 ⟨h.a0,h.a1⟩;rw[hq1]at this;cases this)))
      clear hq1
      obtain⟨x0,x1,x2,x3,x4,x5,x6⟩:=HC.out.at0
      go_wp2_with fail
      go_ret
      exact⟨ret_bool (HRR.out).symm,HB.out⟩
     | true =>
      have HQ1:=Hd (HIA.out.1 hq1)
      clear hq1
      obtain⟨x0,x1,x2,x3,x4,x5,x6⟩:=HC.out.at0
      go_wp2_with fail
      refine(HWS.out _).mono ?_
      rintro e w6 ⟨rfl,hb⟩
      replace HC:=Hd (HC.out.below hb)
      replace HB:=Tb HB hb
      clear hb
      clear x0 x1 x2 x3 x4 x5 x6
      cases hq2:q2 with
      |false=>
       have HRR:=Hd (HR.out.trans (srcB_no HNB.out (fun h=>by have:=HIS.out.2 ⟨h.s0,h.s1⟩;rw[hq2]at this;cases this)))
       clear hq2
       obtain⟨x0,x1,x2,x3,x4,x5,x6⟩:=HC.out.at0
       go_wp2_with fail
       go_ret
       exact⟨ret_bool (HRR.out).symm,HB.out⟩
      | true =>
       have HQ2:=Hd (HIS.out.1 hq2)
       clear hq2
       obtain⟨x0,x1,x2,x3,x4,x5,x6⟩:=HC.out.at0
       go_wp2_with fail
       refine(HBA.out _).mono ?_
       rintro e w7 ⟨rfl,hb⟩
       replace HC:=Hd (HC.out.below hb)
       replace HB:=Tb HB hb
       clear hb
       clear x0 x1 x2 x3 x4 x5 x6
       have HRR:=Hd (show R=(decide ((B:Int)≥1)&&decide ((B:Int)≤65536)) from by
        rw[HR.out]
        by_cases hh:1≤B∧B≤65536
        ·rw[decide_eq_true (show(B:Int)≥1 by omega),decide_eq_true (show(B:Int)≤65536 by omega)]
         exact srcB_yes (.inr ⟨HK.out,HN.out,HA.out,HS.out,HQ1.out.1,HQ1.out.2,HQ2.out.1,HQ2.out.2,by simp only[Int.toNat_natCast];exact HIB.out.1 hh⟩)
        have h3:(decide ((B:Int)≥1)&&decide ((B:Int)≤65536))=false:=by simp;omega
        rw[h3]
        exact srcB_no HNB.out (fun h=>hh (HIB.out.2 (by have:=h.l;simp only[Int.toNat_natCast]at this;exact this))))
       have hb0:=HBB.out
       by_cases hB1:1≤B
       ·have g1:decide ((B:Int)≥1)=true:=decide_eq_true (by omega)
        have HR3:=Hd (show R=decide ((B:Int)≤65536) from by rw[HRR.out,g1];rfl)
        obtain⟨x0,x1,x2,x3,x4,x5,x6⟩:=HC.out.at0
        go_wp2_with fail
        go_ret
        exact⟨ret_bool (HR3.out).symm,HB.out⟩
       have g1:decide ((B:Int)≥1)=false:=decide_eq_false (by omega)
       have HR3:=Hd (show R=false from by rw[HRR.out,g1];rfl)
       obtain⟨x0,x1,x2,x3,x4,x5,x6⟩:=HC.out.at0
       go_wp2_with fail
       go_ret
       exact⟨ret_bool (HR3.out).symm,HB.out⟩
noncomputable def tailB (c:Clip) (l:List Int) (ab nb np nt ns sh:Bool):Bool:=
 if c.kind=0 then ab&&nb&&ns&&np&&nt&&decide (c.gain=0)&&decide (l.length=0)
 else if c.kind=1 then nb&&ns&&np&&nt
 else if c.kind=2 then sh&&np&&nt
 else if c.kind=3 then sh&&decide (0≤c.param)&&decide (c.param≤3)&&nt
 else if c.kind=4 then ns&&decide (0≤c.param)&&decide (c.param≤255)&&nt
 else if c.kind=5 then nb&&ns&&np&&lineB c.text
 else false
noncomputable def headB (c:Clip) (l:List Int):Bool:=decide (1≤c.len)&&decide (c.len≤2147483647)&&decide (0≤c.gain)&&decide (c.gain≤65536)&&chansB l&&srcB c.a&&srcB c.b
open Classical in
noncomputable def bodyB (c:Clip) (l:List Int):Bool:=tailB c l (decide (c.a=black)) (decide (c.b=black)) (decide (c.param=0)) (decide (c.text=ByteArray.empty)) (decide (c.off=0)&&decide (c.total=0)) (decide (0≤c.off)&&decide (c.len≤c.total)&&decide (c.total≤2147483647)&&decide (c.off≤c.total-c.len))
noncomputable def clipB (c:Clip) (l:List Int):Bool:=headB c l&&bodyB c l
theorem clipB_head {c:Clip} {l:List Int} (h:headB c l=false):clipB c l=false:=by unfold clipB;rw[h];rfl
theorem vclip_no (c:Clip) (x:Value) (l:List Int) (w:World) (hi:IT w x l) (ha:InS c.a) (hb:InS c.b) (hno:headB c l=false) :
  Calls Tryz.prog 89 #[clipGV c x] w fun e w'=>e=.returned (.bool false)∧Below w.heap.size w w':=by
 have HA:=Hd (fun w=>vsource_all c.a w ha)
 have HB:=Hd (fun w=>vsource_all c.b w hb)
 simp only[srcV,srcC]at HA HB
 have HNO:=Hd hno
 have HI:=Hd hi
 clear hno ha hb hi
 unfold clipGV
 obtain⟨C,hC⟩:=Xq ((clipG c x).toArray)
 rw[← hC]
 have HC:=Hd hC
 clear hC
 go_enter Tryz.func89,Tryz.ntmps89
 go_upto_region 1 with fail
 obtain⟨w1,hw1⟩:=Xq (w.alloc (.cells C 48))
 rw[← hw1]
 rw[HC.out]at hw1
 have hx:GV w1 w.heap.size c x:=by rw[hw1];exact GV.box w c x 48
 have hb1:Below w.heap.size w w1:=by rw[hw1];exact below_box _ _
 obtain⟨g,hg⟩:=Xq (w.heap.size)
 replace HI:=Hd (HI.out.below hb1)
 rw[← hg]at hx ⊢
 have BW:=Hd hb1
 have HX:=Hd hx
 clear hw1 hb1 hg hx HC
 by_cases h1:1≤c.len
 rotate_left
 ·have HNO:=0
  obtain⟨x0,x1,x2,x3,x4,x5,x6,x7,x8,x9,x10,x11,x12,x13,x14,x15,x16,x17,x18,x19,x20,x21⟩:=HX.out.c.at0
  go_wp2_with fail
  go_ret
  exact⟨rfl,BW.out⟩
 by_cases h2:c.len≤2147483647
 rotate_left
 ·have HNO:=0
  obtain⟨x0,x1,x2,x3,x4,x5,x6,x7,x8,x9,x10,x11,x12,x13,x14,x15,x16,x17,x18,x19,x20,x21⟩:=HX.out.c.at0
  go_wp2_with fail
  go_ret
  exact⟨rfl,BW.out⟩
 by_cases h3:0≤c.gain
 rotate_left
 ·have HNO:=0
  obtain⟨x0,x1,x2,x3,x4,x5,x6,x7,x8,x9,x10,x11,x12,x13,x14,x15,x16,x17,x18,x19,x20,x21⟩:=HX.out.c.at0
  go_wp2_with fail
  go_ret
  exact⟨rfl,BW.out⟩
 by_cases h4:c.gain≤65536
 rotate_left
 ·have HNO:=0
  obtain⟨x0,x1,x2,x3,x4,x5,x6,x7,x8,x9,x10,x11,x12,x13,x14,x15,x16,x17,x18,x19,x20,x21⟩:=HX.out.c.at0
  go_wp2_with fail
  go_ret
  exact⟨rfl,BW.out⟩
 obtain⟨x0,x1,x2,x3,x4,x5,x6,x7,x8,x9,x10,x11,x12,x13,x14,x15,x16,x17,x18,x19,x20,x21⟩:=HX.out.c.at0
 go_wp2_with fail
 refine(vchannels_all x l _ HI.out).mono ?_
 rintro e w' ⟨rfl,rfl⟩
 cases hch:chansB l with
 |false=>
  go_wp2_with fail
  go_ret
  exact⟨rfl,BW.out⟩
 | true =>
  go_wp2_with fail
  refine(HA.out _).mono ?_
  rintro e w2 ⟨rfl,hb⟩
  replace HX:=Hd (HX.out.below hb)
  replace BW:=Tb BW hb
  clear hb x0 x1 x2 x3 x4 x5 x6 x7 x8 x9 x10 x11 x12 x13 x14 x15 x16 x17 x18 x19 x20 x21
  cases hsa:srcB c.a with
  |false=>
   go_wp2_with fail
   go_ret
   exact⟨rfl,BW.out⟩
  | true =>
   obtain⟨x0,x1,x2,x3,x4,x5,x6,x7,x8,x9,x10,x11,x12,x13,x14,x15,x16,x17,x18,x19,x20,x21⟩:=HX.out.c.at0
   go_wp2_with fail
   refine(HB.out _).mono ?_
   rintro e w3 ⟨rfl,hb⟩
   replace HX:=Hd (HX.out.below hb)
   replace BW:=Tb BW hb
   clear hb x0 x1 x2 x3 x4 x5 x6 x7 x8 x9 x10 x11 x12 x13 x14 x15 x16 x17 x18 x19 x20 x21
   cases hsb:srcB c.b with
   |false=>
    go_wp2_with fail
    go_ret
    exact⟨rfl,BW.out⟩
   |true=>
    exfalso
    have:=HNO.out
    unfold headB at this
    rw[decide_eq_true h1,decide_eq_true h2,decide_eq_true h3,decide_eq_true h4,hch,hsa,hsb]at this
    cases this
structure InC (c:Clip):Prop where
 a:InS c.a
 b:InS c.b
 t:c.text.size<9223372036854775808
def GT (w:World) (v:Value) (l:List Clip):Prop:=
 ∃ ao cap,v=.slice ao l.length cap∧l.length≤cap∧cap≤maxLen∧∀ i c,l[i]?=some c→∃ b o x,ao=some ⟨b,o,none⟩∧GA w b (o+i*22) c x∧IT w x c.chan∧InC c
theorem GT.below {w w':World} {v:Value} {l:List Clip} (h:GT w v l) (hb:Below w.heap.size w w'):GT w' v l:=by
 obtain⟨ao,cap,e,h1,h2,h3⟩:=h
 refine⟨ao,cap,e,h1,h2,fun i c hi=>?_⟩
 obtain⟨b,o,x,e2,hA,hI,hc⟩:=h3 i c hi
 exact⟨b,o,x,e2,hA.below hb,hI.below hb,hc⟩
structure TrackP (l:List Clip):Prop where
 n:l.length≤64
 c:∀ (i:Nat) (c:Clip),l[i]?=some c→clipB c c.chan=true
 t:Trk.total l≤2147483647
open Classical in
noncomputable def trackB (l:List Clip):Bool:=decide (TrackP l)
open Classical in
theorem trackB_yes {l:List Clip} (h:TrackP l):trackB l=true:=decide_eq_true h
open Classical in
theorem trackB_no {l:List Clip} (h:¬TrackP l):trackB l=false:=decide_eq_false h
theorem clipB_len {c:Clip} {l:List Int} (h:clipB c l=true):1≤c.len∧c.len≤2147483647:=by
 unfold clipB headB at h
 simp only[Bool.and_eq_true,decide_eq_true_eq]at h
 exact⟨h.1.1.1.1.1.1.1,h.1.1.1.1.1.1.2⟩
theorem total_snoc {l:List Clip} {k:Nat} {c:Clip} (hc:l[k]?=some c):Trk.total (l.take (k+1))=Trk.total (l.take k)+c.len:=by
 rw[List.take_add_one,hc]
 show Trk.total (l.take k++[c])=_
 rw[total_append]
 show _+(c.len+0)=_
 omega
def ClipSays (f:Nat):Prop:=∀ (c:Clip) (x:Value) (w:World),IT w x c.chan→InC c→Calls Tryz.prog f #[clipGV c x] w fun e w'=>e=.returned (.bool (clipB c c.chan))∧Below w.heap.size w w'
theorem GV.put {w:World} {b:Nat} {c:Clip} (h:CV w b c) (e:Clip) (x:Value):GV (w.setCells b 0 (clipG e x)) b e x:=
 ⟨GA.of fun j v hj=>World.rangeAt_setCells_same w b 0 (clipG e x) (by rw[clipG_length];exact h.there) j v hj,fun o=>(World.frozen?_setCells b _ _ w _).trans (h.f o)⟩
theorem wpl_storeG {ops:Array Oper} {rest:List Oper} {op:Oper} {a:Act} {w:World} {Q:Exit→Act→World→Prop} {b:Nat} {c:Clip} (e:Clip) (ao:Option Addr) (m cp:Nat) {x y:Operand} (hc:CV w b c) (hgd:op.guard=none) (ho:op.op=.store 48 x y)
  (hx:a.eval x=.pointer (some ⟨b,0,none⟩)) (hy:a.eval y=.agg (clipG e (.slice ao m cp)).toArray)
  (h:∀ w',GV w' b e (.slice ao m cp)→(∀ n w0,n≤b→Below n w0 w→Below n w0 w')→wpList Tryz.prog ops Q rest (a.put op.dst undef) w'):wpList Tryz.prog ops Q (op::rest) a w:=
 wpList_store_mid hgd 48 x y ho b 0 (clipG e (.slice ao m cp)).toArray hx hy (by show w.there b 0 22;exact hc.there) (by kernel_rfl) (clipG_oneCell e ao m cp)
  (h _ (GV.put hc e _) (fun n w0 hn hb=>below_setCells b hn _ _ _ hb))
theorem vtrack_all (v:Value) (l:List Clip) (w:World) (h:GT w v l) (hS:ClipSays 89) :
  Calls Tryz.prog 47 #[v] w fun e w'=>e=.returned (.bool (trackB l))∧Below w.heap.size w w':=by
 obtain⟨ao,cap,rfl,hc1,hc2,hT⟩:=h
 have HT:=Hd (show GT w (.slice ao l.length cap) l from⟨ao,cap,rfl,hc1,hc2,hT⟩)
 clear hT
 have HS:=Hd hS
 obtain⟨R,hR⟩:=Xq (trackB l)
 rw[← hR]
 have HR:=Hd hR
 obtain⟨N,hN⟩:=Xq (l.length)
 rw[← hN]at hc1
 have HLe:=Hd hN
 have hm:N≤9223372036854775807:=Nat.le_trans hc1 (Nat.le_trans hc2 (by decide))
 rw[← hN]
 clear hR hN hc2 hS
 go_enter Tryz.func47,Tryz.ntmps47
 by_cases hl:N≤64
 rotate_left
 ·have HRR:Hid (R=false):=Hd (by rw[HR.out];exact trackB_no (fun h=>hl (by rw[HLe.out];exact h.n)))
  have g2:decide ((N:Int)>64)=true:=decide_eq_true (by omega)
  go_wp2_with fail
  go_ret
  exact⟨ret_bool (HRR.out).symm,Below.refl _ _⟩
 have g2:decide ((N:Int)>64)=false:=decide_eq_false (by omega)
 go_wp2_with fail
 go_loopw [3,11] (fun v3 v8 wr=>∃ k:Nat,k≤N∧v8=.int .i64 (k:Int)∧v3=.int .i64 (Trk.total (l.take k))∧(∀ (i:Nat) (c:Clip),i<k→l[i]?=some c→clipB c c.chan=true)∧0≤Trk.total (l.take k)∧Trk.total (l.take k)≤(k:Int)*2147483647∧Below w.heap.size w wr) (fun _ i _=>N-(intOf i).toNat)
 case atStart=>exact⟨0,Nat.zero_le _,rfl,rfl,fun i c h=>absurd h (Nat.not_lt_zero i),by simp[Trk.total],by simp[Trk.total],Below.refl _ _⟩
 case round =>
  obtain⟨k,hk,rfl,rfl,hL,t0,t1,hb⟩:=hrel
  have HL:=Hd hL
  clear hL
  by_cases hlt:k<N
  ·have hlt':(k:Int)<(N:Int):=by omega
   have hkl:k<l.length:=by rw[← HLe.out];exact hlt
   obtain⟨c,hc⟩:∃ c,l[k]?=some c:=⟨_,List.getElem?_eq_getElem hkl⟩
   obtain⟨ao',cap',e,_,_,hT⟩:=HT.out.below hb
   simp only[Value.slice.injEq,true_and]at e
   obtain⟨rfl,rfl⟩:=e
   obtain⟨b,o,x,rfl,hA,hI,hI2⟩:=hT k c hc
   clear hT
   have hn:=total_snoc hc
   obtain⟨s,hs⟩:=Xq (Trk.total (l.take k))
   rw[← hs]at hn t0 t1 ⊢
   have HN:=Hd hn
   have HA:=Hd hA
   have HB:=Hd hb
   have HC:=Hd hc
   obtain⟨xa,xn,xc,hx,hx1⟩:∃ xa xn xc,x=.slice xa xn xc∧True:=by
    obtain⟨xa,xc,e,_⟩:=hI
    exact⟨xa,_,xc,e,trivial⟩
   subst hx
   have HVC:=Hd (fun w2 (hb2:Below wr.heap.size wr w2)=>HS.out c _ w2 (hI.below hb2) hI2)
   unfold clipGV at HVC
   clear hA hb hc hkl hn hs hI hI2 hx1
   go_upto_region 6 with fail
   apply wp_region_lit
   iterate 3 go_step
   refine wpl_loadG HA.out rfl rfl rfl ?_
   refine wpl_alloc rfl rfl (fun w2 hg hb2 hs2=>?_)
   obtain⟨g,hgg⟩:=Xq (wr.heap.size)
   rw[← hgg]at hg ⊢
   have hgn:w.heap.size≤g:=by rw[hgg];exact HB.out.size
   have hgr:wr.heap.size≤g:=by rw[hgg];exact Nat.le_refl _
   have HB2:=Hd (HB.out.trans (hb2.mono HB.out.size))
   have HB2':=Hd hb2
   clear hb2 hs2 hgg HA
   refine wpl_storeG c xa xn xc hg rfl rfl rfl rfl ?_
   intro w3 hv hb3
   have HB3:=Hd (hb3 _ _ hgn HB2.out)
   have HB3':=Hd (hb3 _ _ hgr HB2'.out)
   clear hb3 hg HB2 HB2'
   have HV:=Hd hv
   clear hv
   simp only[Act.put,sA1,sB1,sC1]
   obtain⟨C,hC⟩:=Xq ((clipG c (.slice xa xn xc)).toArray)
   rw[← hC]at HVC ⊢
   have HCC:=Hd hC
   clear hC
   go_upto_region 7 with fail
   apply wp_region_lit
   refine wpl_loadG HV.out.c rfl rfl rfl ?_
   rw[← HCC.out]
   simp only[Act.put,sA1,sB1,sC1]
   go_wp2_with fail
   refine(HVC.out _ HB3'.out).mono ?_
   rintro e w4 ⟨rfl,hb⟩
   have HV4:=Hd (HV.out.below hb)
   have HB4:=Tb HB3 hb
   clear hb HV HB3 HB3'
   cases hv:clipB c c.chan with
   |false=>
    have HRR:Hid (R=false):=Hd (by rw[HR.out];exact trackB_no (fun h=>by have:=h.c k c HC.out;rw[hv]at this;cases this))
    clear hv
    go_wp2_with fail
    go_ret
    exact⟨ret_bool (HRR.out).symm,HB4.out⟩
   | true =>
    have hlen:=clipB_len hv
    have HVV:=Hd hv
    clear hv
    have h64:(k:Int)*2147483647≤64*2147483647:=Int.mul_le_mul_of_nonneg_right (by omega) (by decide)
    have x0:=HV4.out.c.at0.1
    have h5:s+c.len≤2147483647*65:=by omega
    go_wp2_with fail
    go_roundw
    case rel=>exact⟨k+1,by omega,by simp,by rw[HN.out],fun i d hi hd=>by
     rcases Nat.lt_or_ge i k with h |h
     ·exact HL.out i d h hd
     have e:i=k:=by omega
     subst e
     have e2:=Option.some.inj (hd.symm.trans HC.out)
     rw[e2];exact HVV.out,by rw[HN.out];omega,by rw[HN.out];omega,HB4.out⟩
    case measure=>
     show N-(intOf (.int .i64 ((k:Int)+1))).toNat<N-(intOf (.int .i64 (k:Int))).toNat
     simp[intOf]
     omega
  have hkl:k=N:=by omega
  have e:l.take k=l:=List.take_of_length_le (by rw[← HLe.out];omega)
  rw[e]at t0 t1 ⊢
  have HB:=Hd hb
  have HRR:Hid (R=decide (Trk.total l≤2147483647)):=Hd (by
   rw[HR.out]
   by_cases ht:Trk.total l≤2147483647
   ·rw[decide_eq_true ht]
    exact trackB_yes ⟨by rw[← HLe.out];exact hl,fun i c hi=>HL.out i c (by rw[hkl,HLe.out];exact(List.getElem?_eq_some_iff.1 hi).1) hi,ht⟩
   rw[decide_eq_false ht]
   exact trackB_no (fun h=>ht h.t))
  obtain⟨s,hs⟩:=Xq (Trk.total l)
  rw[← hs]at HRR t0 t1 ⊢
  clear hb e hs
  subst hkl
  go_wp2_with fail
  go_ret
  exact⟨ret_bool (HRR.out).symm,HB.out⟩
theorem rtrack_all (v:Value) (l:List Clip) (w:World) (h:GT w v l) (hS:ClipSays 95) :
  Calls Tryz.prog 51 #[v] w fun e w'=>e=.returned (.bool (trackB l))∧Below w.heap.size w w':=by
 obtain⟨ao,cap,rfl,hc1,hc2,hT⟩:=h
 have HT:=Hd (show GT w (.slice ao l.length cap) l from⟨ao,cap,rfl,hc1,hc2,hT⟩)
 clear hT
 have HS:=Hd hS
 obtain⟨R,hR⟩:=Xq (trackB l)
 rw[← hR]
 have HR:=Hd hR
 obtain⟨N,hN⟩:=Xq (l.length)
 rw[← hN]at hc1
 have HLe:=Hd hN
 have hm:N≤9223372036854775807:=Nat.le_trans hc1 (Nat.le_trans hc2 (by decide))
 rw[← hN]
 clear hR hN hc2 hS
 go_enter Tryz.func51,Tryz.ntmps51
 by_cases hl:N≤64
 rotate_left
 ·have HRR:Hid (R=false):=Hd (by rw[HR.out];exact trackB_no (fun h=>hl (by rw[HLe.out];exact h.n)))
  have g2:decide ((N:Int)>64)=true:=decide_eq_true (by omega)
  go_wp2_with fail
  go_ret
  exact⟨ret_bool (HRR.out).symm,Below.refl _ _⟩
 have g2:decide ((N:Int)>64)=false:=decide_eq_false (by omega)
 go_wp2_with fail
 go_loopw [3,4] (fun v3 v8 wr=>∃ k:Nat,k≤N∧v8=.int .i64 (k:Int)∧v3=.int .i64 (Trk.total (l.take k))∧(∀ (i:Nat) (c:Clip),i<k→l[i]?=some c→clipB c c.chan=true)∧0≤Trk.total (l.take k)∧Trk.total (l.take k)≤(k:Int)*2147483647∧Below w.heap.size w wr) (fun _ i _=>N-(intOf i).toNat)
 case atStart=>exact⟨0,Nat.zero_le _,rfl,rfl,fun i c h=>absurd h (Nat.not_lt_zero i),by simp[Trk.total],by simp[Trk.total],Below.refl _ _⟩
 case round =>
  obtain⟨k,hk,rfl,rfl,hL,t0,t1,hb⟩:=hrel
  have HL:=Hd hL
  clear hL
  by_cases hlt:k<N
  ·have hlt':(k:Int)<(N:Int):=by omega
   have hkl:k<l.length:=by rw[← HLe.out];exact hlt
   obtain⟨c,hc⟩:∃ c,l[k]?=some c:=⟨_,List.getElem?_eq_getElem hkl⟩
   obtain⟨ao',cap',e,_,_,hT⟩:=HT.out.below hb
   simp only[Value.slice.injEq,true_and]at e
   obtain⟨rfl,rfl⟩:=e
   obtain⟨b,o,x,rfl,hA,hI,hI2⟩:=hT k c hc
   clear hT
   have hn:=total_snoc hc
   obtain⟨s,hs⟩:=Xq (Trk.total (l.take k))
   rw[← hs]at hn t0 t1 ⊢
   have HN:=Hd hn
   have HA:=Hd hA
   have HB:=Hd hb
   have HC:=Hd hc
   obtain⟨xa,xn,xc,hx,hx1⟩:∃ xa xn xc,x=.slice xa xn xc∧True:=by
    obtain⟨xa,xc,e,_⟩:=hI
    exact⟨xa,_,xc,e,trivial⟩
   subst hx
   have HVC:=Hd (fun w2 (hb2:Below wr.heap.size wr w2)=>HS.out c _ w2 (hI.below hb2) hI2)
   unfold clipGV at HVC
   clear hA hb hc hkl hn hs hI hI2 hx1
   go_upto_region 7 with fail
   apply wp_region_lit
   iterate 9 go_step
   refine wpl_loadG HA.out rfl rfl rfl ?_
   simp only[Act.put,sA1,sB1,sC1]
   obtain⟨C,hC⟩:=Xq ((clipG c (.slice xa xn xc)).toArray)
   rw[← hC]at HVC ⊢
   have HCC:=Hd hC
   clear hC
   go_wp2_with fail
   refine(HVC.out _ (Below.refl _ _)).mono ?_
   rintro e w4 ⟨rfl,hb⟩
   have HA4:=Hd (HA.out.below hb)
   have HB4:=Tb HB hb
   clear hb HA HB
   cases hv:clipB c c.chan with
   |false=>
    have HRR:Hid (R=false):=Hd (by rw[HR.out];exact trackB_no (fun h=>by have:=h.c k c HC.out;rw[hv]at this;cases this))
    clear hv
    go_wp2_with fail
    go_ret
    exact⟨ret_bool (HRR.out).symm,HB4.out⟩
   | true =>
    have hlen:=clipB_len hv
    have HVV:=Hd hv
    clear hv
    have h64:(k:Int)*2147483647≤64*2147483647:=Int.mul_le_mul_of_nonneg_right (by omega) (by decide)
    have x0:=HA4.out.k0
    have h5:s+c.len≤2147483647*65:=by omega
    go_wp2_with fail
    go_roundw
    case rel=>exact⟨k+1,by omega,by simp,by rw[HN.out],fun i d hi hd=>by
     rcases Nat.lt_or_ge i k with h |h
     ·exact HL.out i d h hd
     have e:i=k:=by omega
     subst e
     have e2:=Option.some.inj (hd.symm.trans HC.out)
     rw[e2];exact HVV.out,by rw[HN.out];omega,by rw[HN.out];omega,HB4.out⟩
    case measure=>
     show N-(intOf (.int .i64 ((k:Int)+1))).toNat<N-(intOf (.int .i64 (k:Int))).toNat
     simp[intOf]
     omega
  have hkl:k=N:=by omega
  have e:l.take k=l:=List.take_of_length_le (by rw[← HLe.out];omega)
  rw[e]at t0 t1 ⊢
  have HB:=Hd hb
  have HRR:Hid (R=decide (Trk.total l≤2147483647)):=Hd (by
   rw[HR.out]
   by_cases ht:Trk.total l≤2147483647
   ·rw[decide_eq_true ht]
    exact trackB_yes ⟨by rw[← HLe.out];exact hl,fun i c hi=>HL.out i c (by rw[hkl,HLe.out];exact(List.getElem?_eq_some_iff.1 hi).1) hi,ht⟩
   rw[decide_eq_false ht]
   exact trackB_no (fun h=>ht h.t))
  obtain⟨s,hs⟩:=Xq (Trk.total l)
  rw[← hs]at HRR t0 t1 ⊢
  clear hb e hs
  subst hkl
  go_wp2_with fail
  go_ret
  exact⟨ret_bool (HRR.out).symm,HB.out⟩
theorem if_src {s : Src} {r : Bool} {w : World} (h : r = decide (s = black)) :
  (if s.kind = 0 then
   if s.name.toList = [] then
    if s.an = 0 then
     if s.ad = 0 then
      if s.sn=0 then
       if s.sd=0 then
        if s.smooth=true then Result.ok (Next.value (Value.bool false)) w
        else Result.ok (Next.value (Value.bool true)) w
       else Result.ok (Next.value (Value.bool false)) w
      else Result.ok (Next.value (Value.bool false)) w
     else Result.ok (Next.value (Value.bool false)) w
    else Result.ok (Next.value (Value.bool false)) w
   else Result.ok (Next.value (Value.bool false)) w
  else Result.ok (Next.value (Value.bool false)) w)=Result.ok (Next.value (Value.bool r)) w:=by
 subst h
 obtain⟨k,nm,an,ad,sn,sd,sm⟩:=s
 have hs:nm.toList=[]↔nm=ByteArray.empty:=⟨fun h=>bytes_inj2 (by rw[h,Go.ByteArray.toList_eq];rfl),fun h=>by rw[h,Go.ByteArray.toList_eq];rfl⟩
 simp only[hs,black]
 by_cases h1:k=0<;>by_cases h2:nm=ByteArray.empty<;>by_cases h3:an=0<;>by_cases h4:ad=0<;>by_cases h5:sn=0<;>by_cases h6:sd=0<;>cases sm<;>simp[h1,h2,h3,h4,h5,h6]
theorem ret_np {n:Int} {r:Bool} (h:r=decide (n=0)):Value.bool (n==0)=.bool r:=by
 subst h;by_cases h:n=0<;>simp[h]
theorem ret_nt {s:ByteArray} {r:Bool} (h:r=decide (s=ByteArray.empty)):Value.bool s.toList.isEmpty=.bool r:=by
 subst h
 have hs:s.toList=[]↔s=ByteArray.empty:=⟨fun h=>bytes_inj2 (by rw[h,Go.ByteArray.toList_eq];rfl),fun h=>by rw[h,Go.ByteArray.toList_eq];rfl⟩
 by_cases h:s=ByteArray.empty
 ·have h2:=hs.2 h
  rw[h2,decide_eq_true h];rfl
 have h2:s.toList≠[]:=fun e=>h (hs.1 e)
 rw[decide_eq_false h]
 cases he:s.toList with
 |nil=>exact absurd he h2
 |cons a b=>rfl
theorem vclip_yes (c:Clip) (x:Value) (l:List Int) (w:World) (hi:IT w x l) (ha:InS c.a) (hb:InS c.b) (hno:headB c l=true) (hln:c.text.size<9223372036854775808) :
  Calls Tryz.prog 89 #[clipGV c x] w fun e w'=>e=.returned (.bool (bodyB c l))∧Below w.heap.size w w':=by
 have HA:=Hd (fun w=>vsource_all c.a w ha)
 have HB:=Hd (fun w=>vsource_all c.b w hb)
 simp only[srcV,srcC]at HA HB
 have hno2:=hno
 unfold headB at hno2
 simp only[Bool.and_eq_true,decide_eq_true_eq]at hno2
 obtain⟨⟨⟨⟨⟨⟨h1,h2⟩,h3⟩,h4⟩,hch⟩,hsa⟩,hsb⟩:=hno2
 rw[hsa]at HA
 rw[hsb]at HB
 have HCH:=Hd hch
 clear hch hsa hsb
 have HQA:=Hd (fun w=>run_eq_src c.a black w)
 have HQB:=Hd (fun w=>run_eq_src c.b black w)
 simp only[black]at HQA HQB
 have HT:=Hd (fun w=>line_all c.text w hln)
 obtain⟨R,hR⟩:=Xq (bodyB c l)
 rw[← hR]
 unfold bodyB at hR
 obtain⟨ab,hab⟩:=Xq (decide (c.a=black))
 obtain⟨nb,hnb⟩:=Xq (decide (c.b=black))
 obtain⟨np,hnp⟩:=Xq (decide (c.param=0))
 obtain⟨nt,hnt⟩:=Xq (decide (c.text=ByteArray.empty))
 obtain⟨ns,hns⟩:=Xq ((decide (c.off=0)&&decide (c.total=0)))
 obtain⟨sh,hsh⟩:=Xq ((decide (0≤c.off)&&decide (c.len≤c.total)&&decide (c.total≤2147483647)&&decide (c.off≤c.total-c.len)))
 have hab2:decide (c.a=black)=ab:=hab.symm
 have hnb2:decide (c.b=black)=nb:=hnb.symm
 simp only[black]at hab2 hnb2
 rw[← hab,← hnb,← hnp,← hnt,← hns,← hsh]at hR
 rw[hab2]at HQA
 rw[hnb2]at HQB
 simp only[show(ByteArray.empty:ByteArray)=⟨#[]⟩ from rfl]at HQA HQB
 have HNB:=Hd hnb
 have HAB:=Hd hab
 have HR:=Hd hR
 have HNP:=Hd hnp
 have HNT:=Hd hnt
 have HNS:=Hd hns
 have HSH:=Hd hsh
 clear hR hab hnb hnp hnt hns hsh hab2 hnb2 hln
 have HI:=Hd hi
 clear hno ha hb hi
 unfold clipGV
 obtain⟨C,hC⟩:=Xq ((clipG c x).toArray)
 rw[← hC]
 have HC:=Hd hC
 clear hC
 go_enter Tryz.func89,Tryz.ntmps89
 go_upto_region 1 with fail
 obtain⟨w1,hw1⟩:=Xq (w.alloc (.cells C 48))
 rw[← hw1]
 rw[HC.out]at hw1
 have hx:GV w1 w.heap.size c x:=by rw[hw1];exact GV.box w c x 48
 have hb1:Below w.heap.size w w1:=by rw[hw1];exact below_box _ _
 obtain⟨g,hg⟩:=Xq (w.heap.size)
 replace HI:=Hd (HI.out.below hb1)
 rw[← hg]at hx ⊢
 have BW:=Hd hb1
 have HX:=Hd hx
 clear hw1 hb1 hg hx HC
 obtain⟨x0,x1,x2,x3,x4,x5,x6,x7,x8,x9,x10,x11,x12,x13,x14,x15,x16,x17,x18,x19,x20,x21⟩:=HX.out.c.at0
 go_wp2_with fail
 refine(vchannels_all x l _ HI.out).mono ?_
 rintro e w' ⟨rfl,rfl⟩
 rw[HCH.out]
 go_wp2_with fail
 refine(HA.out _).mono ?_
 rintro e w2 ⟨rfl,hb⟩
 replace HX:=Hd (HX.out.below hb)
 replace HI:=Hd (HI.out.below hb)
 replace BW:=Tb BW hb
 clear hb x0 x1 x2 x3 x4 x5 x6 x7 x8 x9 x10 x11 x12 x13 x14 x15 x16 x17 x18 x19 x20 x21
 obtain⟨x0,x1,x2,x3,x4,x5,x6,x7,x8,x9,x10,x11,x12,x13,x14,x15,x16,x17,x18,x19,x20,x21⟩:=HX.out.c.at0
 go_wp2_with fail
 refine(HB.out _).mono ?_
 rintro e w3 ⟨rfl,hb⟩
 replace HX:=Hd (HX.out.below hb)
 replace HI:=Hd (HI.out.below hb)
 replace BW:=Tb BW hb
 clear hb x0 x1 x2 x3 x4 x5 x6 x7 x8 x9 x10 x11 x12 x13 x14 x15 x16 x17 x18 x19 x20 x21
 obtain⟨x0,x1,x2,x3,x4,x5,x6,x7,x8,x9,x10,x11,x12,x13,x14,x15,x16,x17,x18,x19,x20,x21⟩:=HX.out.c.at0
 go_upto_region 3 with fail
 have qb:=HQB.out w3
 apply wp_region_lit
 iterate 11 go_step
 rw[if_src HNB.out]
 go_upto_region 4 with fail
 clear qb x0 x1 x2 x3 x4 x5 x6 x7 x8 x9 x10 x11 x12 x13 x14 x15 x16 x17 x18 x19 x20 x21 HA HB HQB
 obtain⟨x0,x1,x2,x3,x4,x5,x6,x7,x8,x9,x10,x11,x12,x13,x14,x15,x16,x17,x18,x19,x20,x21⟩:=HX.out.c.at0
 go_quiet (fail)
 go_upto_region 5 with fail
 rw[ret_np HNP.out,ret_nt HNT.out]
 obtain⟨w4,hw4⟩:=Xq (w3.drewN nq)
 rw[← hw4]
 have hb:Below w3.heap.size w3 w4:=by rw[hw4];exact below_drewN (Below.refl _ _) _
 replace HX:=Hd (HX.out.below hb)
 replace HI:=Hd (HI.out.below hb)
 replace BW:=Tb BW hb
 clear hb hw4 x0 x1 x2 x3 x4 x5 x6 x7 x8 x9 x10 x11 x12 x13 x14 x15 x16 x17 x18 x19 x20 x21
 go_cut [6] from 8 to 61 (fun a wx=>a=.bool ns∧GV wx g c x∧IT wx x l∧Below w.heap.size w wx)
 case first J K' h1' h2'=>
  obtain⟨x0,x1,x2,x3,x4,x5,x6,x7,x8,x9,x10,x11,x12,x13,x14,x15,x16,x17,x18,x19,x20,x21⟩:=HX.out.c.at0
  by_cases o0:c.off=0
  ·by_cases t0:c.total=0
   ·have e:ns=true:=by rw[HNS.out,decide_eq_true o0,decide_eq_true t0];rfl
    go_wp2_with fail
    refine Met.intro (h1' _ _ ?_)
    (repeat apply Exists.intro)
    exact⟨⟨by first |(rw[e];done) |(rw[e];rfl) |(rw[e];simp[t0]),HX.out,HI.out,BW.out⟩,rfl⟩
   have e:ns=false:=by rw[HNS.out,decide_eq_false t0];simp
   go_wp2_with fail
   refine Met.intro (h1' _ _ ?_)
   (repeat apply Exists.intro)
   exact⟨⟨by first |(rw[e];done) |(rw[e];rfl) |(rw[e];simp[t0]),HX.out,HI.out,BW.out⟩,rfl⟩
  have e:ns=false:=by rw[HNS.out,decide_eq_false o0];rfl
  go_wp2_with fail
  refine Met.intro (h1' _ _ ?_)
  (repeat apply Exists.intro)
  exact⟨⟨by first |(rw[e];done) |(rw[e];rfl) |(rw[e];simp[o0]),HX.out,HI.out,BW.out⟩,rfl⟩
 obtain⟨rfl,hx2,hi2,hb2⟩:=hcut
 replace HX:=Hd hx2
 replace HI:=Hd hi2
 replace BW:=Hd hb2
 clear hx2 hi2 hb2
 go_upto_region 6 with fail
 go_cut [7] from 8 to 86 (fun a wx=>a=.bool sh∧GV wx g c x∧IT wx x l∧Below w.heap.size w wx)
 case first J K' h1' h2'=>
  obtain⟨x0,x1,x2,x3,x4,x5,x6,x7,x8,x9,x10,x11,x12,x13,x14,x15,x16,x17,x18,x19,x20,x21⟩:=HX.out.c.at0
  by_cases s1:0≤c.off
  rotate_left
  ·have e:sh=false:=by rw[HSH.out,decide_eq_false s1];simp
   go_wp2_with fail
   refine Met.intro (h1' _ _ ?_)
   (repeat apply Exists.intro)
   exact⟨⟨by first |(rw[e];done) |(rw[e];rfl) |(rw[e];simp;omega),HX.out,HI.out,BW.out⟩,rfl⟩
  by_cases s2:c.len≤c.total
  rotate_left
  ·have e:sh=false:=by rw[HSH.out,decide_eq_false s2];simp
   go_wp2_with fail
   refine Met.intro (h1' _ _ ?_)
   (repeat apply Exists.intro)
   exact⟨⟨by first |(rw[e];done) |(rw[e];rfl) |(rw[e];simp;omega),HX.out,HI.out,BW.out⟩,rfl⟩
  by_cases s3:c.total≤2147483647
  rotate_left
  ·have e:sh=false:=by rw[HSH.out,decide_eq_false s3];simp
   go_wp2_with fail
   refine Met.intro (h1' _ _ ?_)
   (repeat apply Exists.intro)
   exact⟨⟨by first |(rw[e];done) |(rw[e];rfl) |(rw[e];simp;omega),HX.out,HI.out,BW.out⟩,rfl⟩
  by_cases s4:c.off≤c.total-c.len
  rotate_left
  ·have e:sh=false:=by rw[HSH.out,decide_eq_false s4];simp
   go_wp2_with fail
   refine Met.intro (h1' _ _ ?_)
   (repeat apply Exists.intro)
   exact⟨⟨by first |(rw[e];done) |(rw[e];rfl) |(rw[e];simp;omega),HX.out,HI.out,BW.out⟩,rfl⟩
  have e:sh=true:=by rw[HSH.out,decide_eq_true s1,decide_eq_true s2,decide_eq_true s3,decide_eq_true s4];rfl
  go_wp2_with fail
  refine Met.intro (h1' _ _ ?_)
  (repeat apply Exists.intro)
  exact⟨⟨by first |(rw[e];done) |(rw[e];rfl) |(rw[e];simp;omega),HX.out,HI.out,BW.out⟩,rfl⟩
 obtain⟨rfl,hx2,hi2,hb2⟩:=hcut
 replace HX:=Hd hx2
 replace HI:=Hd hi2
 replace BW:=Hd hb2
 clear hx2 hi2 hb2
 by_cases ho:c.kind<0∨5<c.kind
 ·have HRR:Hid (R=false):=Hd (by rw[HR.out];unfold tailB;rw[if_neg (by omega),if_neg (by omega),if_neg (by omega),if_neg (by omega),if_neg (by omega),if_neg (by omega)])
  have q0:(c.kind==0)=false:=by simp;omega
  have q1:(c.kind==1)=false:=by simp;omega
  have q2:(c.kind==2)=false:=by simp;omega
  have q3:(c.kind==3)=false:=by simp;omega
  have q4:(c.kind==4)=false:=by simp;omega
  have q5:(c.kind==5)=false:=by simp;omega
  clear ho
  obtain⟨x0,x1,x2,x3,x4,x5,x6,x7,x8,x9,x10,x11,x12,x13,x14,x15,x16,x17,x18,x19,x20,x21⟩:=HX.out.c.at0
  go_wp2_with fail
  go_ret
  exact⟨ret_bool (HRR.out).symm,BW.out⟩
 rcases(show c.kind=0∨c.kind=1∨c.kind=2∨c.kind=3∨c.kind=4∨c.kind=5 by omega) with hk |hk |hk |hk |hk |hk
 ·have HK:=Hd hk
  clear hk
  obtain⟨ao,cp,hx,-⟩:=HI.out
  obtain⟨m,hm⟩:=Xq (l.length)
  rw[← hm]at hx
  have HM:=Hd hm
  clear hm
  subst hx
  cases hab:ab with
  |false=>
   have HRR:Hid (R=false):=Hd (by rw[HR.out];unfold tailB;rw[hab];simp[HK.out])
   replace HAB:=Hd (HAB.out)
   obtain⟨x0,x1,x2,x3,x4,x5,x6,x7,x8,x9,x10,x11,x12,x13,x14,x15,x16,x17,x18,x19,x20,x21⟩:=HX.out.c.at0
   rw[HK.out]at x1
   go_upto_region 9 with fail
   have qa:=HQA.out
   apply wp_region_lit
   iterate 11 go_step
   try rw[if_src (r:=false) (by first |exact HAB.out |(have:=HAB.out;rw[hab]at this;exact this))]
   go_wp2_with fail
   go_ret
   exact⟨ret_bool (HRR.out).symm,BW.out⟩
  |true=>
  cases hnb:nb with
  |false=>
   have HRR:Hid (R=false):=Hd (by rw[HR.out];unfold tailB;rw[hnb];simp[HK.out])
   subst hnb
   obtain⟨x0,x1,x2,x3,x4,x5,x6,x7,x8,x9,x10,x11,x12,x13,x14,x15,x16,x17,x18,x19,x20,x21⟩:=HX.out.c.at0
   rw[HK.out]at x1
   go_upto_region 9 with fail
   have qa:=HQA.out
   apply wp_region_lit
   iterate 11 go_step
   try rw[if_src (r:=true) (by first |exact HAB.out |(have:=HAB.out;rw[hab]at this;exact this))]
   go_wp2_with fail
   go_ret
   exact⟨ret_bool (HRR.out).symm,BW.out⟩
  |true=>
  subst hnb
  cases hns:ns with
  |false=>
   have HRR:Hid (R=false):=Hd (by rw[HR.out];unfold tailB;rw[hns];simp[HK.out])
   subst hns
   obtain⟨x0,x1,x2,x3,x4,x5,x6,x7,x8,x9,x10,x11,x12,x13,x14,x15,x16,x17,x18,x19,x20,x21⟩:=HX.out.c.at0
   rw[HK.out]at x1
   go_upto_region 9 with fail
   have qa:=HQA.out
   apply wp_region_lit
   iterate 11 go_step
   try rw[if_src (r:=true) (by first |exact HAB.out |(have:=HAB.out;rw[hab]at this;exact this))]
   go_wp2_with fail
   go_ret
   exact⟨ret_bool (HRR.out).symm,BW.out⟩
  |true=>
  subst hns
  cases hnp:np with
  |false=>
   have HRR:Hid (R=false):=Hd (by rw[HR.out];unfold tailB;rw[hnp];simp[HK.out])
   subst hnp
   obtain⟨x0,x1,x2,x3,x4,x5,x6,x7,x8,x9,x10,x11,x12,x13,x14,x15,x16,x17,x18,x19,x20,x21⟩:=HX.out.c.at0
   rw[HK.out]at x1
   go_upto_region 9 with fail
   have qa:=HQA.out
   apply wp_region_lit
   iterate 11 go_step
   try rw[if_src (r:=true) (by first |exact HAB.out |(have:=HAB.out;rw[hab]at this;exact this))]
   go_wp2_with fail
   go_ret
   exact⟨ret_bool (HRR.out).symm,BW.out⟩
  |true=>
  subst hnp
  cases hnt:nt with
  |false=>
   have HRR:Hid (R=false):=Hd (by rw[HR.out];unfold tailB;rw[hnt];simp[HK.out])
   subst hnt
   obtain⟨x0,x1,x2,x3,x4,x5,x6,x7,x8,x9,x10,x11,x12,x13,x14,x15,x16,x17,x18,x19,x20,x21⟩:=HX.out.c.at0
   rw[HK.out]at x1
   go_upto_region 9 with fail
   have qa:=HQA.out
   apply wp_region_lit
   iterate 11 go_step
   try rw[if_src (r:=true) (by first |exact HAB.out |(have:=HAB.out;rw[hab]at this;exact this))]
   go_wp2_with fail
   go_ret
   exact⟨ret_bool (HRR.out).symm,BW.out⟩
  |true=>
  subst hnt
  by_cases vg:c.gain=0
  rotate_left
  ·have HRR:Hid (R=false):=Hd (by rw[HR.out];unfold tailB;simp[HK.out,vg])
   have g1:(c.gain==0)=false:=by simp[vg]
   obtain⟨x0,x1,x2,x3,x4,x5,x6,x7,x8,x9,x10,x11,x12,x13,x14,x15,x16,x17,x18,x19,x20,x21⟩:=HX.out.c.at0
   rw[HK.out]at x1
   go_upto_region 9 with fail
   have qa:=HQA.out
   apply wp_region_lit
   iterate 11 go_step
   try rw[if_src (r:=true) (by first |exact HAB.out |(have:=HAB.out;rw[hab]at this;exact this))]
   go_wp2_with fail
   go_ret
   exact⟨ret_bool (HRR.out).symm,BW.out⟩
  by_cases vn:m=0
  rotate_left
  ·have HRR:Hid (R=false):=Hd (by rw[HR.out];unfold tailB;simp[HK.out,← HM.out,vn])
   have g2:((m:Int)==0)=false:=by simp;omega
   obtain⟨x0,x1,x2,x3,x4,x5,x6,x7,x8,x9,x10,x11,x12,x13,x14,x15,x16,x17,x18,x19,x20,x21⟩:=HX.out.c.at0
   rw[HK.out]at x1
   go_upto_region 9 with fail
   have qa:=HQA.out
   apply wp_region_lit
   iterate 11 go_step
   try rw[if_src (r:=true) (by first |exact HAB.out |(have:=HAB.out;rw[hab]at this;exact this))]
   go_wp2_with fail
   go_ret
   exact⟨ret_bool (HRR.out).symm,BW.out⟩
  have HRR:Hid (R=true):=Hd (by rw[HR.out];unfold tailB;rw[hab];simp[HK.out,vg,← HM.out,vn])
  subst vn
  obtain⟨x0,x1,x2,x3,x4,x5,x6,x7,x8,x9,x10,x11,x12,x13,x14,x15,x16,x17,x18,x19,x20,x21⟩:=HX.out.c.at0
  rw[HK.out]at x1
  go_upto_region 9 with fail
  have qa:=HQA.out
  apply wp_region_lit
  iterate 11 go_step
  try rw[if_src (r:=true) (by first |exact HAB.out |(have:=HAB.out;rw[hab]at this;exact this))]
  go_wp2_with fail
  go_ret
  exact⟨ret_bool (HRR.out).symm,BW.out⟩
 ·have HK:=Hd hk
  clear hk
  cases hnb:nb with
  |false=>
   have HRR:Hid (R=false):=Hd (by rw[HR.out];unfold tailB;rw[hnb];simp[HK.out])
   subst hnb
   obtain⟨x0,x1,x2,x3,x4,x5,x6,x7,x8,x9,x10,x11,x12,x13,x14,x15,x16,x17,x18,x19,x20,x21⟩:=HX.out.c.at0
   rw[HK.out]at x1
   go_wp2_with fail
   go_ret
   exact⟨ret_bool (HRR.out).symm,BW.out⟩
  |true=>
  subst hnb
  cases hns:ns with
  |false=>
   have HRR:Hid (R=false):=Hd (by rw[HR.out];unfold tailB;rw[hns];simp[HK.out])
   subst hns
   obtain⟨x0,x1,x2,x3,x4,x5,x6,x7,x8,x9,x10,x11,x12,x13,x14,x15,x16,x17,x18,x19,x20,x21⟩:=HX.out.c.at0
   rw[HK.out]at x1
   go_wp2_with fail
   go_ret
   exact⟨ret_bool (HRR.out).symm,BW.out⟩
  |true=>
  subst hns
  cases hnp:np with
  |false=>
   have HRR:Hid (R=false):=Hd (by rw[HR.out];unfold tailB;rw[hnp];simp[HK.out])
   subst hnp
   obtain⟨x0,x1,x2,x3,x4,x5,x6,x7,x8,x9,x10,x11,x12,x13,x14,x15,x16,x17,x18,x19,x20,x21⟩:=HX.out.c.at0
   rw[HK.out]at x1
   go_wp2_with fail
   go_ret
   exact⟨ret_bool (HRR.out).symm,BW.out⟩
  |true=>
  subst hnp
  cases hnt:nt with
  |false=>
   have HRR:Hid (R=false):=Hd (by rw[HR.out];unfold tailB;rw[hnt];simp[HK.out])
   subst hnt
   obtain⟨x0,x1,x2,x3,x4,x5,x6,x7,x8,x9,x10,x11,x12,x13,x14,x15,x16,x17,x18,x19,x20,x21⟩:=HX.out.c.at0
   rw[HK.out]at x1
   go_wp2_with fail
   go_ret
   exact⟨ret_bool (HRR.out).symm,BW.out⟩
  |true=>
  subst hnt
  have HRR:Hid (R=true):=Hd (by rw[HR.out];unfold tailB;simp[HK.out])
  obtain⟨x0,x1,x2,x3,x4,x5,x6,x7,x8,x9,x10,x11,x12,x13,x14,x15,x16,x17,x18,x19,x20,x21⟩:=HX.out.c.at0
  rw[HK.out]at x1
  go_wp2_with fail
  go_ret
  exact⟨ret_bool (HRR.out).symm,BW.out⟩
 ·have HK:=Hd hk
  clear hk
  cases hsh:sh with
  |false=>
   have HRR:Hid (R=false):=Hd (by rw[HR.out];unfold tailB;rw[hsh];simp[HK.out])
   subst hsh
   obtain⟨x0,x1,x2,x3,x4,x5,x6,x7,x8,x9,x10,x11,x12,x13,x14,x15,x16,x17,x18,x19,x20,x21⟩:=HX.out.c.at0
   rw[HK.out]at x1
   go_wp2_with fail
   go_ret
   exact⟨ret_bool (HRR.out).symm,BW.out⟩
  |true=>
  subst hsh
  cases hnp:np with
  |false=>
   have HRR:Hid (R=false):=Hd (by rw[HR.out];unfold tailB;rw[hnp];simp[HK.out])
   subst hnp
   obtain⟨x0,x1,x2,x3,x4,x5,x6,x7,x8,x9,x10,x11,x12,x13,x14,x15,x16,x17,x18,x19,x20,x21⟩:=HX.out.c.at0
   rw[HK.out]at x1
   go_wp2_with fail
   go_ret
   exact⟨ret_bool (HRR.out).symm,BW.out⟩
  |true=>
  subst hnp
  cases hnt:nt with
  |false=>
   have HRR:Hid (R=false):=Hd (by rw[HR.out];unfold tailB;rw[hnt];simp[HK.out])
   subst hnt
   obtain⟨x0,x1,x2,x3,x4,x5,x6,x7,x8,x9,x10,x11,x12,x13,x14,x15,x16,x17,x18,x19,x20,x21⟩:=HX.out.c.at0
   rw[HK.out]at x1
   go_wp2_with fail
   go_ret
   exact⟨ret_bool (HRR.out).symm,BW.out⟩
  |true=>
  subst hnt
  have HRR:Hid (R=true):=Hd (by rw[HR.out];unfold tailB;simp[HK.out])
  obtain⟨x0,x1,x2,x3,x4,x5,x6,x7,x8,x9,x10,x11,x12,x13,x14,x15,x16,x17,x18,x19,x20,x21⟩:=HX.out.c.at0
  rw[HK.out]at x1
  go_wp2_with fail
  go_ret
  exact⟨ret_bool (HRR.out).symm,BW.out⟩
 ·have HK:=Hd hk
  clear hk
  cases hsh:sh with
  |false=>
   have HRR:Hid (R=false):=Hd (by rw[HR.out];unfold tailB;rw[hsh];simp[HK.out])
   subst hsh
   obtain⟨x0,x1,x2,x3,x4,x5,x6,x7,x8,x9,x10,x11,x12,x13,x14,x15,x16,x17,x18,x19,x20,x21⟩:=HX.out.c.at0
   rw[HK.out]at x1
   go_wp2_with fail
   go_ret
   exact⟨ret_bool (HRR.out).symm,BW.out⟩
  |true=>
  subst hsh
  by_cases vp0:0≤c.param
  rotate_left
  ·have HRR:Hid (R=false):=Hd (by rw[HR.out];unfold tailB;simp[HK.out,vp0])
   obtain⟨x0,x1,x2,x3,x4,x5,x6,x7,x8,x9,x10,x11,x12,x13,x14,x15,x16,x17,x18,x19,x20,x21⟩:=HX.out.c.at0
   rw[HK.out]at x1
   go_wp2_with fail
   go_ret
   exact⟨ret_bool (HRR.out).symm,BW.out⟩
  by_cases vp3:c.param≤3
  rotate_left
  ·have HRR:Hid (R=false):=Hd (by rw[HR.out];unfold tailB;simp[HK.out,vp3])
   obtain⟨x0,x1,x2,x3,x4,x5,x6,x7,x8,x9,x10,x11,x12,x13,x14,x15,x16,x17,x18,x19,x20,x21⟩:=HX.out.c.at0
   rw[HK.out]at x1
   go_wp2_with fail
   go_ret
   exact⟨ret_bool (HRR.out).symm,BW.out⟩
  cases hnt:nt with
  |false=>
   have HRR:Hid (R=false):=Hd (by rw[HR.out];unfold tailB;rw[hnt];simp[HK.out])
   subst hnt
   obtain⟨x0,x1,x2,x3,x4,x5,x6,x7,x8,x9,x10,x11,x12,x13,x14,x15,x16,x17,x18,x19,x20,x21⟩:=HX.out.c.at0
   rw[HK.out]at x1
   go_wp2_with fail
   go_ret
   exact⟨ret_bool (HRR.out).symm,BW.out⟩
  |true=>
  subst hnt
  have HRR:Hid (R=true):=Hd (by rw[HR.out];unfold tailB;simp[HK.out,vp0,vp3])
  obtain⟨x0,x1,x2,x3,x4,x5,x6,x7,x8,x9,x10,x11,x12,x13,x14,x15,x16,x17,x18,x19,x20,x21⟩:=HX.out.c.at0
  rw[HK.out]at x1
  go_wp2_with fail
  go_ret
  exact⟨ret_bool (HRR.out).symm,BW.out⟩
 ·have HK:=Hd hk
  clear hk
  cases hns:ns with
  |false=>
   have HRR:Hid (R=false):=Hd (by rw[HR.out];unfold tailB;rw[hns];simp[HK.out])
   subst hns
   obtain⟨x0,x1,x2,x3,x4,x5,x6,x7,x8,x9,x10,x11,x12,x13,x14,x15,x16,x17,x18,x19,x20,x21⟩:=HX.out.c.at0
   rw[HK.out]at x1
   go_wp2_with fail
   go_ret
   exact⟨ret_bool (HRR.out).symm,BW.out⟩
  |true=>
  subst hns
  by_cases vp0:0≤c.param
  rotate_left
  ·have HRR:Hid (R=false):=Hd (by rw[HR.out];unfold tailB;simp[HK.out,vp0])
   obtain⟨x0,x1,x2,x3,x4,x5,x6,x7,x8,x9,x10,x11,x12,x13,x14,x15,x16,x17,x18,x19,x20,x21⟩:=HX.out.c.at0
   rw[HK.out]at x1
   go_wp2_with fail
   go_ret
   exact⟨ret_bool (HRR.out).symm,BW.out⟩
  by_cases vp255:c.param≤255
  rotate_left
  ·have HRR:Hid (R=false):=Hd (by rw[HR.out];unfold tailB;simp[HK.out,vp255])
   obtain⟨x0,x1,x2,x3,x4,x5,x6,x7,x8,x9,x10,x11,x12,x13,x14,x15,x16,x17,x18,x19,x20,x21⟩:=HX.out.c.at0
   rw[HK.out]at x1
   go_wp2_with fail
   go_ret
   exact⟨ret_bool (HRR.out).symm,BW.out⟩
  cases hnt:nt with
  |false=>
   have HRR:Hid (R=false):=Hd (by rw[HR.out];unfold tailB;rw[hnt];simp[HK.out])
   subst hnt
   obtain⟨x0,x1,x2,x3,x4,x5,x6,x7,x8,x9,x10,x11,x12,x13,x14,x15,x16,x17,x18,x19,x20,x21⟩:=HX.out.c.at0
   rw[HK.out]at x1
   go_wp2_with fail
   go_ret
   exact⟨ret_bool (HRR.out).symm,BW.out⟩
  |true=>
  subst hnt
  have HRR:Hid (R=true):=Hd (by rw[HR.out];unfold tailB;simp[HK.out,vp0,vp255])
  obtain⟨x0,x1,x2,x3,x4,x5,x6,x7,x8,x9,x10,x11,x12,x13,x14,x15,x16,x17,x18,x19,x20,x21⟩:=HX.out.c.at0
  rw[HK.out]at x1
  go_wp2_with fail
  go_ret
  exact⟨ret_bool (HRR.out).symm,BW.out⟩
 have HK:=Hd hk
 clear hk
 cases hnb:nb with
 |false=>
  have HRR:Hid (R=false):=Hd (by rw[HR.out];unfold tailB;rw[hnb];simp[HK.out])
  subst hnb
  obtain⟨x0,x1,x2,x3,x4,x5,x6,x7,x8,x9,x10,x11,x12,x13,x14,x15,x16,x17,x18,x19,x20,x21⟩:=HX.out.c.at0
  rw[HK.out]at x1
  go_wp2_with fail
  go_ret
  exact⟨ret_bool (HRR.out).symm,BW.out⟩
 |true=>
 subst hnb
 cases hns:ns with
 |false=>
  have HRR:Hid (R=false):=Hd (by rw[HR.out];unfold tailB;rw[hns];simp[HK.out])
  subst hns
  obtain⟨x0,x1,x2,x3,x4,x5,x6,x7,x8,x9,x10,x11,x12,x13,x14,x15,x16,x17,x18,x19,x20,x21⟩:=HX.out.c.at0
  rw[HK.out]at x1
  go_wp2_with fail
  go_ret
  exact⟨ret_bool (HRR.out).symm,BW.out⟩
 |true=>
 subst hns
 cases hnp:np with
 |false=>
  have HRR:Hid (R=false):=Hd (by rw[HR.out];unfold tailB;rw[hnp];simp[HK.out])
  subst hnp
  obtain⟨x0,x1,x2,x3,x4,x5,x6,x7,x8,x9,x10,x11,x12,x13,x14,x15,x16,x17,x18,x19,x20,x21⟩:=HX.out.c.at0
  rw[HK.out]at x1
  go_wp2_with fail
  go_ret
  exact⟨ret_bool (HRR.out).symm,BW.out⟩
 |true=>
 subst hnp
 obtain⟨lt,hlt⟩:=Xq (lineB c.text)
 rw[← hlt]at HT
 have HLT:=Hd hlt
 clear hlt
 have HRR:Hid (R=lt):=Hd (by rw[HR.out];unfold tailB;simp[HK.out,HLT.out])
 obtain⟨x0,x1,x2,x3,x4,x5,x6,x7,x8,x9,x10,x11,x12,x13,x14,x15,x16,x17,x18,x19,x20,x21⟩:=HX.out.c.at0
 rw[HK.out]at x1
 go_wp2_with fail
 refine(HT.out _).mono ?_
 rintro e w7 ⟨rfl,rfl⟩
 go_wp2_with fail
 go_ret
 exact⟨ret_bool (HRR.out).symm,BW.out⟩
end Go.Proofs.YtfoohocgdcgbcaaGreat
