/- Texts of this claim joined: A B C D E. -/
import Derived.Test.YtfoohocgdcgbcaaGreatRows
import Derived.WalkSpells
import Derived.WalkLawsBesides
import Derived.Deep.LoopGhost
import Derived.Deep.Cut
import Derived.Deep.CutRange
import Derived.Deep.Light
import Derived.Lib.Hide
import Derived.BigRegion
import Derived.BigQuiet
import Derived.Handy
import Derived.Defers
import Derived.Recover
import Derived.Lib.Mul64
import Derived.Shelf.Bits.Mul64
import Derived.Test.YtfoohocgdcgbcaaGreatMe00
import Derived.Test.YtfoohocgdcgbcaaGreatSq
set_option linter.unusedVariables false
set_option linter.unusedSimpArgs false
set_option maxRecDepth 100000
set_option maxHeartbeats 40000000
namespace Go.Proofs.YtfoohocgdcgbcaaGreat
open Go.Trk
open Go.RowKit
theorem below_box (w:World) (o:Obj):Below w.heap.size w (w.alloc o):=(Below.refl _ _).alloc (Nat.le_refl _) _
theorem ret_bool {a b:Bool} (h:a=b):Ending.returned (.bool a)=Ending.returned (.bool b):=by rw[h]
theorem ret_int {k:IntKind} {a b:Int} (h:a=b):Ending.returned (.int k a)=Ending.returned (.int k b):=by rw[h]
theorem below_drewN {B:Nat} {w w':World} (h:Below B w w') (m:Nat):Below B w (w'.drewN m):=by
 induction m with
 |zero=>exact h
 |succ m ih=>exact⟨h.os,h.tape,h.output,h.size,fun k hk=>h.block k hk⟩
theorem gcd_step {a b:Nat} (hb:b≠0):Nat.gcd b (a % b)=Nat.gcd a b:=by
 rw[Nat.gcd_comm a b,Nat.gcd_rec b a,Nat.gcd_comm]
theorem gcd_any (x y:Nat) (w:World) (hx:x<18446744073709551616) (hy:y<18446744073709551616) :
  Calls Tryz.prog 155 #[.int .u64 (x:Int),.int .u64 (y:Int)] w fun e w'=>e=.returned (.int .u64 ((Nat.gcd x y:Nat):Int))∧∃ m,w'=w.drewN m:=by
 obtain⟨g,hg⟩:=Xq (Nat.gcd x y)
 rw[← hg]
 replace hg:=Hd hg
 go_enter Tryz.func155,Tryz.ntmps155
 go_wp2
 go_loopw [0,1] (fun i j wr=>∃ a b:Nat,i=.int .u64 (a:Int)∧j=.int .u64 (b:Int)∧a<18446744073709551616∧b<18446744073709551616∧Hid (g=Nat.gcd a b)∧∃ m,wr=w.drewN m) (fun i j _=>(intOf j).toNat)
 case atStart=>exact⟨x,y,rfl,rfl,hx,hy,hg,0,rfl⟩
 case round=>
  obtain⟨a,b,rfl,rfl,ha,hb,hG,m,rfl⟩:=hrel
  by_cases h0:b=0
  ·subst h0
   go_wp2
   go_ret
   exact⟨by rw[hG.out];simp,m,rfl⟩
  have e1:¬(b:Int)=0:=by omega
  have hm:=Nat.mod_lt a (Nat.pos_of_ne_zero h0)
  go_wp2
  go_quiet (fail)
  go_wp2
  go_round
  case rel=>exact⟨b,a % b,rfl,by simp,hb,by omega,Hd (by rw[hG.out,gcd_step h0]),m+_,World.drewN_drewN _ _ _⟩
  case measure=>simp[intOf];omega
theorem magnitude_any (x:Int) (w:World) (h0:-9223372036854775808≤x) (h1:x≤9223372036854775807) :
  Calls Tryz.prog 156 #[.int .i64 x] w fun e w'=>e=.returned (.int .u64 (x.natAbs:Int))∧w=w':=by
 by_cases h:x<0
 ·go_enter Tryz.func156,Tryz.ntmps156
  go_wp2
  go_ret
  exact⟨ret_int (by simp only[IntKind.wrap_u64];omega),rfl⟩
 go_enter Tryz.func156,Tryz.ntmps156
 go_wp2
 go_ret
 exact⟨ret_int (by first |omega |(simp only[IntKind.wrap_u64];omega)),rfl⟩
def validR (n d:Int):Bool:=decide (1≤d∧-9223372036854775808<n)&&(n.natAbs.gcd d.toNat==1)
theorem validR_yes {n d:Int} (h:1≤d) (k:-9223372036854775808<n):validR n d=(n.natAbs.gcd d.toNat==1):=by
 unfold validR;rw[decide_eq_true ⟨h,k⟩,Bool.true_and]
theorem validR_no {n d:Int} (h:¬(1≤d∧-9223372036854775808<n)):validR n d=false:=by
 unfold validR;rw[decide_eq_false h,Bool.false_and]
theorem valid_any (n d:Int) (w:World) (n0:-9223372036854775808≤n) (n1:n≤9223372036854775807) (d0:-9223372036854775808≤d) (d1:d≤9223372036854775807) :
  Calls Tryz.prog 121 #[.agg #[.int .i64 n,.int .i64 d]] w fun e w'=>e=.returned (.bool (validR n d))∧Below w.heap.size w w':=by
 by_cases h1:1≤d
 ·have e1:decide ((1:Int)≤d)=true:=by simpa using h1
  by_cases h2:-9223372036854775808<n
  ·have e2:decide ((-9223372036854775808:Int)<n)=true:=by simpa using h2
   have HO:=Hd (validR_yes h1 h2)
   obtain⟨y,rfl⟩:∃ y:Nat,d=y:=⟨d.toNat,by omega⟩
   obtain⟨m,hm⟩:∃ m:Nat,m=n.natAbs:=⟨_,rfl⟩
   have HM:=Hd hm
   have hm1:m<9223372036854775808:=by omega
   have hy:y<9223372036854775808:=by omega
   clear hm
   go_enter Tryz.func121,Tryz.ntmps121
   go_wp2
   go_quiet (first
    |(go_at_call 156;exact Calls.quiet_of_same ((magnitude_any n _ n0 n1).mono fun e w' h=>⟨h.1.trans (by rw[← HM.out]),h.2.symm⟩))
    |(go_at_call 155;exact Calls.quiet_of (gcd_any m y _ (by omega) (by omega))))
   go_wp2
   go_ret
   refine⟨ret_bool ?_,below_drewN (below_box w _) _⟩
   rw[HO.out,← HM.out,Bool.eq_iff_iff,Int.toNat_natCast]
   simp
   omega
  have e2:decide ((-9223372036854775808:Int)<n)=false:=by simpa using h2
  have HO:=Hd (validR_no (n:=n) (d:=d) (by omega))
  go_enter Tryz.func121,Tryz.ntmps121
  go_wp2
  go_quiet (fail)
  go_wp2
  go_ret
  exact⟨ret_bool HO.out.symm,below_drewN (below_box w _) _⟩
 have e1:decide ((1:Int)≤d)=false:=by simpa using h1
 have HO:=Hd (validR_no (n:=n) (d:=d) (by omega))
 go_enter Tryz.func121,Tryz.ntmps121
 go_wp2
 go_quiet (fail)
 go_wp2
 go_ret
 exact⟨ret_bool HO.out.symm,below_drewN (below_box w _) _⟩
theorem mul64_any (x y:Nat) (hx:x<18446744073709551616) (hy:y<18446744073709551616) (w:World) :
  Calls Tryz.prog 174 #[.int .u64 x,.int .u64 y] w fun e w'=>e=.returned (.tuple #[.int .u64 ((x*y / 18446744073709551616:Nat):Int),.int .u64 ((x*y % 18446744073709551616:Nat):Int)])∧w'=w:=by
 obtain⟨bd,bt,bw,hhi⟩:=Lib.mul64_hi x y hx hy
 have ba:=Lib.half_mul_le (a:=x / 4294967296) (b:=y / 4294967296) (by omega) (by omega)
 have bb:=Lib.half_mul_le (a:=x / 4294967296) (b:=y % 4294967296) (by omega) (by omega)
 have bc:=Lib.half_mul_le (a:=x % 4294967296) (b:=y / 4294967296) (by omega) (by omega)
 have ba':x / 4294967296*(y / 4294967296)<18446744073709551616:=by omega
 have bb':x / 4294967296*(y % 4294967296)<18446744073709551616:=by omega
 have bc':x % 4294967296*(y / 4294967296)<18446744073709551616:=by omega
 have bh1:x / 4294967296*(y / 4294967296)+(x / 4294967296*(y % 4294967296)+x % 4294967296*(y % 4294967296) / 4294967296) / 4294967296<18446744073709551616:=by omega
 have bh:x / 4294967296*(y / 4294967296)+(x / 4294967296*(y % 4294967296)+x % 4294967296*(y % 4294967296) / 4294967296) / 4294967296+((x / 4294967296*(y % 4294967296)+x % 4294967296*(y % 4294967296) / 4294967296) % 4294967296+x % 4294967296*(y / 4294967296)) / 4294967296<18446744073709551616:=by omega
 go_enter Tryz.func174,Tryz.ntmps174
 go_wp2
 simp only[Mul64.maskN x hx,Mul64.maskN y hy,Mul64.divN,Mul64.mulN,Mul64.addN,Mul64.wrapN _ bd,Mul64.wrapN _ bb',Mul64.wrapN _ bt,Mul64.maskN _ bt,Mul64.wrapN _ bc',Mul64.wrapN _ bw,Mul64.wrapN _ ba',Mul64.wrapN _ bh1,Mul64.wrapN _ bh,Mul64.wrapM (x*y)]
 rw[hhi]
 go_ret2
 exact⟨rfl,rfl⟩
theorem run_add64 (x y:Nat) (w:World):(callFunc 176 #[.int .u64 (x:Int),.int .u64 (y:Int),.int .u64 0]).run Tryz.prog w=.ok (.value (.tuple #[.int .u64 (((x+y) % 18446744073709551616:Nat):Int),.int .u64 (((x+y) / 18446744073709551616:Nat):Int)])) w:=by
 rw[run_callFunc_extern Tryz.func176 (by kernel_rfl) (by kernel_rfl) (by kernel_rfl) (e:=(Extern.MathBitsCarry.rows[0]!).2) (by kernel_rfl)]
 have h3 : (Extern.MathBitsCarry.three "Add64" #[.int .u64 (x : Int), .int .u64 (y : Int), .int .u64 0]).run Tryz.prog w = .ok (x, y, 0) w := rfl
 have h4:((Extern.MathBitsCarry.rows[0]!).2 #[.int .u64 (x:Int),.int .u64 (y:Int),.int .u64 0]).run Tryz.prog w=.ok (Extern.MathBitsCarry.pair ((x+y+0) % Extern.MathBitsCarry.m64) ((x+y+0) / Extern.MathBitsCarry.m64)) w:=by
  show (do let p ← Extern.MathBitsCarry.three "Add64" #[.int .u64 (x : Int), .int .u64 (y : Int), .int .u64 0]; pure (Extern.MathBitsCarry.pair ((p.1 + p.2.1 + p.2.2) % Extern.MathBitsCarry.m64) ((p.1 + p.2.1 + p.2.2) / Extern.MathBitsCarry.m64)) : Sem Value).run Tryz.prog w = _
  rw[Sem.run_bind,h3]
  rfl
 rw[h4]
 rfl
theorem run_sub64 (x y:Nat) (h:y≤x) (hx:x<18446744073709551616) (w:World):(callFunc 177 #[.int .u64 (x:Int),.int .u64 (y:Int),.int .u64 0]).run Tryz.prog w=.ok (.value (.tuple #[.int .u64 ((x-y:Nat):Int),.int .u64 0])) w:=by
 rw[run_callFunc_extern Tryz.func177 (by kernel_rfl) (by kernel_rfl) (by kernel_rfl) (e:=(Extern.MathBitsCarry.rows[1]!).2) (by kernel_rfl)]
 have h3 : (Extern.MathBitsCarry.three "Sub64" #[.int .u64 (x : Int), .int .u64 (y : Int), .int .u64 0]).run Tryz.prog w = .ok (x, y, 0) w := rfl
 have h4:((Extern.MathBitsCarry.rows[1]!).2 #[.int .u64 (x:Int),.int .u64 (y:Int),.int .u64 0]).run Tryz.prog w=.ok (Extern.MathBitsCarry.pair ((x+Extern.MathBitsCarry.m64-y-0) % Extern.MathBitsCarry.m64) (if x<y+0 then 1 else 0)) w:=by
  show (do let p ← Extern.MathBitsCarry.three "Sub64" #[.int .u64 (x : Int), .int .u64 (y : Int), .int .u64 0]; pure (Extern.MathBitsCarry.pair ((p.1 + Extern.MathBitsCarry.m64 - p.2.1 - p.2.2) % Extern.MathBitsCarry.m64) (if p.1 < p.2.1 + p.2.2 then 1 else 0)) : Sem Value).run Tryz.prog w = _
  rw[Sem.run_bind,h3]
  rfl
 rw[h4,if_neg (by omega)]
 have e1:(x+Extern.MathBitsCarry.m64-y-0) % Extern.MathBitsCarry.m64=x-y:=by unfold Extern.MathBitsCarry.m64;omega
 rw[e1]
 rfl
theorem div64_any (x y:Nat) (hx:x<18446744073709551616) (hy:y<18446744073709551616) (h0:0<y) (w:World) :
  Calls Tryz.prog 175 #[.int .u64 0,.int .u64 (x:Int),.int .u64 (y:Int)] w fun e w'=>e=.returned (.tuple #[.int .u64 ((x / y:Nat):Int),.int .u64 ((x % y:Nat):Int)])∧∃ m,w'=w.drewN m:=by
 have e1:¬(y:Int)=0:=by omega
 have e2:((y:Int)==0)=false:=by simp;omega
 have e3:¬(y:Int)≤0:=by omega
 have e4:decide ((y:Int)≤0)=false:=by simp;omega
 have e5:¬y=0:=by omega
 have e6:(y==0)=false:=by simp;omega
 go_enter Tryz.func175,Tryz.ntmps175
 go_wp2_with fail
 go_quiet (fail)
 go_wp2
 go_ret2
 refine⟨?_,_,rfl⟩
 have h1:=Nat.div_le_self x y
 have e7:IntKind.u64.wrap ((x:Int) / (y:Int))=(x:Int) / (y:Int):=by rw[IntKind.wrap_u64,← Int.natCast_ediv];generalize x / y=q at *;omega
 rw[e7]
 simp
theorem rem64_any (x y:Nat) (hx:x<18446744073709551616) (hy:y<18446744073709551616) (h0:0<y) (w:World) :
  Calls Tryz.prog 178 #[.int .u64 0,.int .u64 (x:Int),.int .u64 (y:Int)] w fun e w'=>e=.returned (.int .u64 ((x % y:Nat):Int))∧∃ m,w'=w.drewN m:=by
 have e1:¬(y:Int)=0:=by omega
 have e3:(0:Int) % (y:Int)=0:=by simp
 go_enter Tryz.func178,Tryz.ntmps178
 go_wp2_with fail
 refine(div64_any x y hx hy h0 _).mono ?_
 rintro e w' ⟨rfl,m,rfl⟩
 go_wp2
 go_ret
 exact⟨rfl,m,rfl⟩
def wideV (n:Int):Value:=.agg #[.bool (decide (n<0)),.int .u64 0,.int .u64 (n.natAbs:Int)]
theorem product_any (x y:Int) (w:World) (x0:-9223372036854775808≤x) (x1:x≤9223372036854775807) (y0:-9223372036854775808≤y) (y1:y≤9223372036854775807) (h:(x*y).natAbs<9223372036854775808) :
  Calls Tryz.prog 168 #[.int .i64 x,.int .i64 y] w fun e w'=>e=.returned (wideV (x*y))∧Below w.heap.size w w':=by
 have hab:x.natAbs*y.natAbs=(x*y).natAbs:=(Int.natAbs_mul x y).symm
 have hd:x.natAbs*y.natAbs / 18446744073709551616=0:=by omega
 have hm:x.natAbs*y.natAbs % 18446744073709551616=(x*y).natAbs:=by omega
 have HD:=Hd hd
 have HM:=Hd hm
 obtain⟨p,hp⟩:=Xq ((x*y).natAbs)
 have HP:=Hd hp
 have hp1:p<9223372036854775808:=by omega
 have hneg:decide (x*y<0)=((decide (x<0) != decide (y<0))&&!(p==0)):=by
  rcases Int.lt_trichotomy x 0 with a |a |a<;>rcases Int.lt_trichotomy y 0 with b |b |b
  ·have h1:0<x*y:=Int.mul_pos_of_neg_of_neg a b
   have h2:¬x*y<0:=by omega
   simp[a,b,h2]
  ·subst b;simp at hp;simp[hp]
  ·have h1:x*y<0:=Int.mul_neg_of_neg_of_pos a b
   have h2:¬y<0:=by omega
   have h3:p≠0:=by omega
   simp[a,h2,h1,h3]
  ·subst a;simp at hp;simp[hp]
  ·subst a;simp at hp;simp[hp]
  ·subst a;simp at hp;simp[hp]
  ·have h1:x*y<0:=Int.mul_neg_of_pos_of_neg a b
   have h2:¬x<0:=by omega
   have h3:p≠0:=by omega
   simp[b,h2,h1,h3]
  ·subst b;simp at hp;simp[hp]
  have h1:0<x*y:=Int.mul_pos a b
  have h2:¬x*y<0:=by omega
  have h3:¬x<0:=by omega
  have h4:¬y<0:=by omega
  simp[h2,h3,h4]
 have HN:=Hd hneg
 have hor:bits BinOp.or IntKind.u64 0 (p:Int)=(p:Int):=by
  have h:=bits_or_u64_nat 0 p (by omega) (by omega)
  simpa using h
 clear hab hd hm hp hneg h
 have hb4:(decide (x<0)=true∨decide (x<0)=false)∧(decide (y<0)=true∨decide (y<0)=false):=by
  constructor<;>exact(Bool.eq_false_or_eq_true _)
 obtain⟨hx |hx,hy |hy⟩:=hb4
 all_goals
  go_enter Tryz.func168,Tryz.ntmps168
  go_wp2_with fail
  refine(magnitude_any x _ x0 x1).mono ?_
  rintro e w1 ⟨rfl,rfl⟩
  go_wp2_with fail
  refine(magnitude_any y _ y0 y1).mono ?_
  rintro e w1 ⟨rfl,rfl⟩
  go_wp2_with fail
  refine(mul64_any _ _ (by omega) (by omega) _).mono ?_
  rintro e w1 ⟨rfl,rfl⟩
  rw[HD.out,HM.out,← HP.out]
  go_wp2_with fail
  refine bodyPost_ret (v:=wideV (x*y)) ?_ rfl ⟨rfl,below_box w _⟩
  unfold wideV
  rw[HN.out,← HP.out,hx,hy]
  simp[results,Tryz.results168,go_sem]
  try (cases hp0:(p==0)<;>simp_all)
theorem add_small (m n:Nat) (h:m+n<18446744073709551616) (w:World):(callFunc 176 #[.int .u64 (m:Int),.int .u64 (n:Int),.int .u64 0]).run Tryz.prog w=.ok (.value (.tuple #[.int .u64 ((m+n:Nat):Int),.int .u64 0])) w:=by
 rw[run_add64,show(m+n) % 18446744073709551616=m+n by omega,show(m+n) / 18446744073709551616=0 by omega]
 rfl
theorem add_none (w:World):(callFunc 176 #[.int .u64 0,.int .u64 0,.int .u64 0]).run Tryz.prog w=.ok (.value (.tuple #[.int .u64 0,.int .u64 0])) w:=add_small 0 0 (by decide) w
theorem sub_none (w:World):(callFunc 177 #[.int .u64 0,.int .u64 0,.int .u64 0]).run Tryz.prog w=.ok (.value (.tuple #[.int .u64 0,.int .u64 0])) w:=run_sub64 0 0 (by decide) (by decide) w
theorem plus_any (a b:Int) (w:World) (ha:a.natAbs<4611686018427387904) (hb:b.natAbs<4611686018427387904) :
  Calls Tryz.prog 171 #[wideV a,wideV b] w fun e w'=>e=.returned (wideV (a+b))∧Below w.heap.size w w':=by
 unfold wideV
 obtain⟨m,hm⟩:=Xq (a.natAbs)
 obtain⟨n,hn⟩:=Xq (b.natAbs)
 obtain⟨p,hp⟩:=Xq ((a+b).natAbs)
 rw[← hm]at ha ⊢
 rw[← hn]at hb ⊢
 rw[← hp]
 have hA:=add_small m n (by omega)
 have hA0:=add_none
 have hS0:=sub_none
 have hor:bits BinOp.or IntKind.u64 0 (p:Int)=(p:Int):=by
  have h:=bits_or_u64_nat 0 p (by omega) (by omega)
  simpa using h
 by_cases h1:a<0<;>by_cases h2:b<0
 ·skip
  have e1:decide (a<0)=true:=by simpa using h1
  have e2:decide (b<0)=true:=by simpa using h2
  have e3:decide (a+b<0)=true:=by simp;omega
  have e4:m+n=p:=by omega
  rw[e4]at hA
  rw[e1,e2,e3]
  clear hm hn hp e1 e2 e3 e4
  go_enter Tryz.func171,Tryz.ntmps171
  go_wp2_with fail
  refine bodyPost_ret (v:=.agg #[_,.int .u64 0,.int .u64 (p:Int)]) ?_ rfl ⟨rfl,?_⟩
  ·simp[results,Tryz.results171,go_sem]
  go_grown
 ·by_cases h3:m<n
  ·skip
   have e1:decide (a<0)=true:=by simpa using h1
   have e2:decide (b<0)=false:=by simpa using h2
   have hS:=run_sub64 n m (by omega) (by omega)
   have e4:n-m=p:=by omega
   rw[e4]at hS
   have e5:decide ((m:Int)<(n:Int))=true:=by simp;omega
   have e6:decide (m<n)=true:=by simp;omega
   have e3:decide (a+b<0)=false:=by simp;omega
   rw[e1,e2,e3]
   clear hm hn hp e1 e2 e3 e4
   go_enter Tryz.func171,Tryz.ntmps171
   go_wp2_with fail
   refine bodyPost_ret (v:=.agg #[_,.int .u64 0,.int .u64 (p:Int)]) ?_ rfl ⟨rfl,?_⟩
   ·simp[results,Tryz.results171,go_sem]
   go_grown
  skip
  have e1:decide (a<0)=true:=by simpa using h1
  have e2:decide (b<0)=false:=by simpa using h2
  have hS:=run_sub64 m n (by omega) (by omega)
  have e4:m-n=p:=by omega
  rw[e4]at hS
  have e5:decide ((m:Int)<(n:Int))=false:=by simp;omega
  have e6:decide (m<n)=false:=by simp;omega
  have e3:decide (a+b<0)=!(p==0):=by rw[Bool.eq_iff_iff];simp;omega
  have e7:((p:Int) != 0)=!(p==0):=by rw[Bool.eq_iff_iff];simp
  rw[e1,e2,e3]
  clear hm hn hp e1 e2 e3 e4
  go_enter Tryz.func171,Tryz.ntmps171
  go_wp2_with fail
  refine bodyPost_ret (v:=.agg #[_,.int .u64 0,.int .u64 (p:Int)]) ?_ rfl ⟨rfl,?_⟩
  ·simp[results,Tryz.results171,go_sem]
  go_grown
 ·by_cases h3:m<n
  ·skip
   have e1:decide (a<0)=false:=by simpa using h1
   have e2:decide (b<0)=true:=by simpa using h2
   have hS:=run_sub64 n m (by omega) (by omega)
   have e4:n-m=p:=by omega
   rw[e4]at hS
   have e5:decide ((m:Int)<(n:Int))=true:=by simp;omega
   have e6:decide (m<n)=true:=by simp;omega
   have e3:decide (a+b<0)=true:=by simp;omega
   have e7:((p:Int) != 0)=true:=by simp;omega
   have e8:(p==0)=false:=by simp;omega
   rw[e1,e2,e3]
   clear hm hn hp e1 e2 e3 e4
   go_enter Tryz.func171,Tryz.ntmps171
   go_wp2_with fail
   refine bodyPost_ret (v:=.agg #[_,.int .u64 0,.int .u64 (p:Int)]) ?_ rfl ⟨rfl,?_⟩
   ·simp[results,Tryz.results171,go_sem]
   go_grown
  skip
  have e1:decide (a<0)=false:=by simpa using h1
  have e2:decide (b<0)=true:=by simpa using h2
  have hS:=run_sub64 m n (by omega) (by omega)
  have e4:m-n=p:=by omega
  rw[e4]at hS
  have e5:decide ((m:Int)<(n:Int))=false:=by simp;omega
  have e6:decide (m<n)=false:=by simp;omega
  have e3:decide (a+b<0)=false:=by simp;omega
  rw[e1,e2,e3]
  clear hm hn hp e1 e2 e3 e4
  go_enter Tryz.func171,Tryz.ntmps171
  go_wp2_with fail
  refine bodyPost_ret (v:=.agg #[_,.int .u64 0,.int .u64 (p:Int)]) ?_ rfl ⟨rfl,?_⟩
  ·simp[results,Tryz.results171,go_sem]
  go_grown
 skip
 have e1:decide (a<0)=false:=by simpa using h1
 have e2:decide (b<0)=false:=by simpa using h2
 have e3:decide (a+b<0)=false:=by simp;omega
 have e4:m+n=p:=by omega
 rw[e4]at hA
 rw[e1,e2,e3]
 clear hm hn hp e1 e2 e3 e4
 go_enter Tryz.func171,Tryz.ntmps171
 go_wp2_with fail
 refine bodyPost_ret (v:=.agg #[_,.int .u64 0,.int .u64 (p:Int)]) ?_ rfl ⟨rfl,?_⟩
 ·simp[results,Tryz.results171,go_sem]
 go_grown
theorem modulo_any (n:Int) (d:Nat) (w:World) (hn:n.natAbs<9223372036854775808) (hd:d<9223372036854775808) (h0:0<d) :
  Calls Tryz.prog 172 #[wideV n,.int .u64 (d:Int)] w fun e w'=>e=.returned (.int .u64 ((n.natAbs % d:Nat):Int))∧Below w.heap.size w w':=by
 unfold wideV
 obtain⟨m,hm⟩:=Xq (n.natAbs)
 rw[← hm]at hn ⊢
 clear hm
 go_enter Tryz.func172,Tryz.ntmps172
 go_wp2_with fail
 refine(rem64_any m d (by omega) (by omega) h0 _).mono ?_
 rintro e w' ⟨rfl,k,rfl⟩
 go_wp2_with fail
 go_ret
 exact⟨rfl,below_drewN (below_box w _) _⟩
theorem divide_any (n:Int) (d:Nat) (w:World) (hn:n.natAbs<9223372036854775808) (hd:d<9223372036854775808) (h0:0<d) (hdv:(d:Int)∣n) :
  Calls Tryz.prog 169 #[wideV n,.int .u64 (d:Int)] w fun e w'=>e=.returned (.tuple #[.int .i64 (n / (d:Int)),.int .u64 0,.bool true])∧Below w.heap.size w w':=by
 unfold wideV
 obtain⟨k,rfl⟩:=hdv
 have hk:(d:Int)*k / (d:Int)=k:=Int.mul_ediv_cancel_left _ (by omega)
 rw[hk]
 have hab:((d:Int)*k).natAbs=d*k.natAbs:=by rw[Int.natAbs_mul];simp
 rw[hab]at hn ⊢
 obtain⟨q,hq⟩:=Xq (k.natAbs)
 rw[← hq]at hn ⊢
 have hqq:d*q / d=q:=Nat.mul_div_cancel_left _ h0
 have hqr:d*q % d=0:=Nat.mul_mod_right _ _
 have hql:q≤d*q:=Nat.le_mul_of_pos_left _ h0
 have hneg:decide ((d:Int)*k<0)=decide (k<0):=by
  rw[Bool.eq_iff_iff]
  simp only[decide_eq_true_eq]
  exact⟨fun h=>Int.not_le.1 fun h'=>Int.not_lt.2 (Int.mul_nonneg (show(0:Int)≤(d:Int) by omega) h') h,fun h=>Int.mul_neg_of_pos_of_neg (by omega) h⟩
 rw[hneg]
 obtain⟨m,hm⟩:=Xq (d*q)
 rw[← hm]at hqq hqr hn hql ⊢
 have HQ:=Hd hqq
 have HR:=Hd hqr
 have hq1:q<9223372036854775808:=by omega
 have t1:decide ((d:Int)≤0)=false:=by simp;omega
 have t2:¬(d:Int)≤0:=by omega
 have t3:decide ((9223372036854775807:Int)<(q:Int))=false:=by simp;omega
 have t4:decide ((9223372036854775808:Int)<(q:Int))=false:=by simp;omega
 have t5:((q:Int)==9223372036854775808)=false:=by simp;omega
 have t6:¬d=0:=by omega
 by_cases hk0:k<0
 ·have e1:decide (k<0)=true:=by simpa using hk0
  have hv:wrap64 (IntKind.u64.wrap (-(q:Int)))=k:=by
   rw[IntKind.wrap_u64];unfold wrap64;omega
  have HV:=Hd hv
  rw[e1]
  clear hk hab hq hqq hqr hql hneg hm e1 hv
  go_enter Tryz.func169,Tryz.ntmps169
  go_wp2_with fail
  refine(div64_any m d (by omega) (by omega) h0 _).mono ?_
  rintro e w' ⟨rfl,j,rfl⟩
  rw[HQ.out,HR.out]
  go_wp2_with fail
  go_ret3
  exact⟨by rw[HV.out];rfl,below_drewN (below_box w _) _⟩
 have e1:decide (k<0)=false:=by simpa using hk0
 have hv:(q:Int)=k:=by omega
 have HV:=Hd hv
 rw[e1]
 clear hk hab hq hqq hqr hql hneg hm e1 hv
 go_enter Tryz.func169,Tryz.ntmps169
 go_wp2_with fail
 refine(div64_any m d (by omega) (by omega) h0 _).mono ?_
 rintro e w' ⟨rfl,j,rfl⟩
 rw[HQ.out,HR.out]
 go_wp2_with fail
 go_ret3
 exact⟨by rw[HV.out];rfl,below_drewN (below_box w _) _⟩
theorem fraction_any (num d:Int) (w:World) (h0:0≤d) (h1:d<9223372036854775808) (hn:-9223372036854775808<num) :
  Calls Tryz.prog 170 #[.int .i64 num,wideV d] w fun e w'=>e=.returned (.tuple #[.agg #[.int .i64 num,.int .i64 d],.int .i64 0])∧Below w.heap.size w w':=by
 have hc:∀ w:World,Calls Tryz.prog 169 #[.agg #[.bool (decide (d<0)),.int .u64 0,.int .u64 (d.natAbs:Int)],.int .u64 1] w fun e w'=>e=.returned (.tuple #[.int .i64 d,.int .u64 0,.bool true])∧Below w.heap.size w w':=fun w=>by
  have h:=divide_any d 1 w (by omega) (by decide) (by decide) ⟨d,by simp⟩
  rw[show d / ((1:Nat):Int)=d by simp]at h
  exact h
 have e2:(num==-9223372036854775808)=false:=by simp;omega
 have HC:=Hd hc
 have HU:Hid (wideV d=.agg #[.bool (decide (d<0)),.int .u64 0,.int .u64 (d.natAbs:Int)]):=Hd rfl
 rw[HU.out]
 clear hc
 go_enter Tryz.func170,Tryz.ntmps170
 go_wp2_with fail
 obtain⟨w1,hw1⟩:=Xq ((w.alloc (.cells #[.bool (decide (d<0)),.int .u64 0,.int .u64 (d.natAbs:Int)] 208)).alloc (.cells #[.int .i64 0,.int .i64 0] 38))
 rw[← hw1]
 have hb1:Below w.heap.size w w1:=by rw[hw1];go_grown
 have hz1:w.heap.size+1<w1.heap.size:=by rw[hw1];simp
 have hf1:∀ o,w1.frozen? ⟨w.heap.size+1,o,none⟩=false:=fun o=>by rw[hw1];simp[go_sem]
 obtain⟨g,hg⟩:=Xq (w.heap.size+1)
 rw[← hg]at hz1 hf1 ⊢
 have hk:w1.cell? ⟨g,0,none⟩=some (.int .i64 0)∧w1.cell? ⟨g,1,none⟩=some (.int .i64 0):=by rw[hw1,hg];constructor<;>simp[go_sem]
 have HB1:=Hd hb1
 have hgw:w.heap.size≤g:=by omega
 clear hw1 hb1 hg
 refine(HC.out _).mono ?_
 rintro e w2 ⟨rfl,hb⟩
 have hf2:∀ o,w2.frozen? ⟨g,o,none⟩=false:=fun o=>(hb.frozen (p:=⟨g,o,none⟩) hz1).trans (hf1 o)
 have k0:=(hb.cell (p:=⟨g,0,none⟩) hz1).trans hk.1
 have k1:=(hb.cell (p:=⟨g,1,none⟩) hz1).trans hk.2
 have HB:=Hd (HB1.out.trans (hb.mono (by omega)))
 clear hb hf1 hk
 go_wp2_with fail
 refine bodyPost_ret (v:=.tuple #[.agg #[.int .i64 num,.int .i64 d],.int .i64 0]) (by simp[results,Tryz.results170,go_sem,k0,k1]) rfl ⟨rfl,(HB.out.setCell hgw _).setCell hgw _⟩
end Go.Proofs.YtfoohocgdcgbcaaGreat
