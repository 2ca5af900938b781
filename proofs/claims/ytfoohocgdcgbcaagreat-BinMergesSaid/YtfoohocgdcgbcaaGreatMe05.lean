/- Texts of this claim joined: J. -/
import Derived.Test.YtfoohocgdcgbcaaGreatMe04
import Derived.Test.YtfoohocgdcgbcaaGreatSq
set_option linter.unusedVariables false
set_option linter.unusedSimpArgs false
set_option maxRecDepth 100000
set_option maxHeartbeats 40000000
namespace Go.Proofs.YtfoohocgdcgbcaaGreat
open Go.Trk
open Go.RowKit
theorem equal_any (c d:Clip) (w:World) (hc:c.chan=[]) (hd:d.chan=[]) :
  Calls Tryz.prog 66 #[clipV c,clipV d] w fun e w'=>e=.returned (.bool (decide (c=d)))∧Below w.heap.size w w':=by
 have HC:=Hd hc
 have HD:=Hd hd
 clear hc hd
 unfold clipV
 have hqa:=run_eq_src c.a d.a
 have hqb:=run_eq_src c.b d.b
 obtain⟨C,hC⟩:=Xq ((clipC c).toArray)
 obtain⟨D,hD⟩:=Xq ((clipC d).toArray)
 rw[← hC,← hD]
 have HCC:=Hd hC
 have HDD:=Hd hD
 clear hC hD
 go_enter Tryz.func66,Tryz.ntmps66
 go_upto_region 1 with fail
 obtain⟨w1,hw1⟩:=Xq ((w.alloc (.cells C 48)).alloc (.cells D 48))
 rw[← hw1]
 rw[HCC.out,HDD.out]at hw1
 obtain⟨hx,hy,hb1⟩:=box2_facts hw1
 obtain⟨g1,hg1⟩:=Xq (w.heap.size)
 obtain⟨g2,hg2⟩:=Xq (w.heap.size+1)
 rw[← hg2]at hy ⊢
 rw[← hg1]at hx ⊢
 have HB:=Hd hb1
 clear hw1 hb1 hg1 hg2
 obtain⟨x0,x1,x2,x3,x4,x5,x6,x7,x8,x9,x10,x11,x12,x13,x14,x15,x16,x17,x18,x19,x20,x21⟩:=hx.at0
 obtain⟨y0,y1,y2,y3,y4,y5,y6,y7,y8,y9,y10,y11,y12,y13,y14,y15,y16,y17,y18,y19,y20,y21⟩:=hy.at0
 clear hx hy
 go_wp2_with (go_at_call 107;refine(equal_nil _).mono ?_;rintro e w' ⟨rfl,rfl⟩)
 all_goals go_ret
 all_goals refine⟨ret_bool ?_,HB.out⟩
 all_goals first
  | (refine (decide_eq_true ?_).symm
     refine Clip.ext2 ?_ ?_ ?_ ?_ ?_ ?_ ?_ ?_ ?_ (HC.out.trans HD.out.symm)<;>first |assumption |exact bytes_inj2 (by assumption))
  | (refine (decide_eq_false ?_).symm
     rintro rfl
     first |exact absurd rfl (by assumption) |(exfalso;simp_all))
end Go.Proofs.YtfoohocgdcgbcaaGreat
