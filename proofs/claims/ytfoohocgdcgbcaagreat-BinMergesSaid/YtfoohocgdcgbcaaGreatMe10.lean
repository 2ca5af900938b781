/- Texts of this claim joined: VJ VM VN VO VP VQ VR. -/
import Derived.Lib.AppendZeros
import Derived.Deep.CutBlock
import Derived.Test.YtfoohocgdcgbcaaGreatMe01
import Derived.Test.YtfoohocgdcgbcaaGreatMe09
import Derived.Test.YtfoohocgdcgbcaaGreatSq
set_option linter.unusedVariables false
set_option linter.unusedSimpArgs false
set_option maxRecDepth 100000
set_option maxHeartbeats 40000000
namespace Go.Proofs.YtfoohocgdcgbcaaGreat
open Go.Trk
open Go.RowKit
def CutPost (w:World) (l:List Clip) (a b:Int) (e:Ending) (w':World):Prop:=∃ v',e=.returned (.tuple #[v',.int .i64 0])∧OT w' w.heap.size v' (cut l a b)∧Below w.heap.size w w'
structure Col (RAW:List Clip) (acc:List Clip) (left:Int):Prop where
 e:RAW=acc++(if 0<left then[gap left] else[])
 n:acc.length≤1048576
 l:0≤left
 m:left≤2147483647
theorem cut_any {L : Int} (v : Value) (l : List Clip) (a b : Int) (w : World) (h : Tk w v l) (hV : VT L l) (hL : L ≤ 140737488355328) (a0 : 0 ≤ a) (ab : a ≤ b) (b1 : b ≤ 2147483647) (hlen : (cut l a b).length ≤ 64) :
  Calls Tryz.prog 30 #[v,.int .i64 a,.int .i64 b] w (CutPost w l a b):=by
 obtain⟨ao,cap,rfl,hc1,hc2,hT⟩:=h
 have HT:=Hd (show Tk w (.slice ao l.length cap) l from⟨ao,cap,rfl,hc1,hc2,hT⟩)
 clear hT
 have HVT:=Hd (fun w (h:Tk w (.slice ao l.length cap) l)=>vtrack_any _ l w h hV hL)
 have HFI:=Hd (fun w (h:Tk w (.slice ao l.length cap) l)=>find_any _ l a w h hV a0 (by omega))
 have HV:=Hd hV.v
 have HG:=Hd hV.v.good
 have hl:=hV.n
 have HRV:=Hd (cutRaw_vl (f:=a) (n:=b-a) hV.v a0 (by omega))
 have HRT:=Hd (cutRaw_spec (f:=a) (n:=b-a) hV.v.good a0 (by omega)).2.1
 have HRL:=Hd (cutRaw_length l a (b-a))
 unfold CutPost
 unfold cut at hlen ⊢
 obtain⟨RAW,hRAW⟩:=Xq (cutRaw l a (b-a))
 rw[← hRAW]at hlen HRV HRT HRL ⊢
 have HRAW:=Hd hRAW
 obtain⟨N,hN⟩:=Xq (l.length)
 rw[← hN]at hl hc1 HRL HFI HVT HT ⊢
 have HLe:=Hd hN
 clear hV hN hc2 hRAW
 go_enter_defers Tryz.func30,Tryz.ntmps30
 go_upto_region 2 with fail
 obtain⟨w1,hw1⟩:=Xq ((w.alloc (.cells #[.slice none 0 0] 23)).alloc (.cells #[.int .i64 0] 30))
 rw[← hw1]
 have hE1:Below w.heap.size w w1:=by rw[hw1];go_grown
 obtain⟨g1,hg1⟩:=Xq (w.heap.size)
 obtain⟨g2,hg2⟩:=Xq (w.heap.size+1)
 have hr:RV w1 g1 g2 (.slice none 0 0) (.int .i64 0):=by rw[hw1,hg1,hg2];constructor<;>simp[go_sem]
 have hz:w1.heap.size=g2+1:=by rw[hw1,hg2];simp[go_sem]
 rw[← hg2,← hg1]
 have hn1:w.heap.size≤g1:=by omega
 have hn2:w.heap.size≤g2:=by omega
 have h12:g1<g2:=by omega
 have HR:=Hd hr
 have HB:=Hd hE1
 have HS:=Hd (Nat.le_of_eq hz.symm)
 clear hw1 hE1 hg1 hg2 hr hz
 go_wp2_with fail
 refine(HVT.out _ (HT.out.below HB.out)).mono ?_
 rintro e w2 ⟨rfl,hb⟩
 replace HR:=Hd (HR.out.up hb)
 replace HB:=Tb HB hb
 replace HS:=Hd (Nat.le_trans HS.out hb.size)
 clear hb HVT
 go_wp2_with fail
 refine(HFI.out _ (HT.out.below HB.out)).mono ?_
 rintro e w3 ⟨rfl,hb⟩
 replace HR:=Hd (HR.out.up hb)
 replace HB:=Tb HB hb
 replace HS:=Hd (Nat.le_trans HS.out hb.size)
 clear hb HFI
 obtain⟨n,hn⟩:=Xq (b-a)
 rw[← hn]at HRT HRAW
 have n0:0≤n:=by omega
 have n1:n≤2147483647:=by omega
 have HN:=Hd hn
 clear hn
 by_cases hat:a<Trk.total l
 ·obtain⟨j,m,ef,hj,hm0,hm,c,hc,hmc⟩:=findL_some (l:=l) (n:=a) (i:=0) a0 hat
  rw[ef]
  simp only[findV,Nat.zero_add]
  rw[← HLe.out]at hj
  by_cases hnz:0<n
  ·have hnz':0<b-a:=by have:=HN.out;omega
   obtain⟨ao',cap',e,_,_,hT⟩:=HT.out
   simp only[Value.slice.injEq]at e
   obtain⟨rfl,eN,rfl⟩:=e
   clear eN
   obtain⟨bb,oo,rfl,_⟩:=hT j c hc
   clear hT
   have HJ:=Hd (And.intro ef (And.intro hm hc))
   clear ef hm hc hat
   have hab:decide (a<b)=true:=decide_eq_true (by omega)
   go_upto_if 46 with fail
   go_cut [8,9] from 47 (fun v8 v9 wx=>∃ acc left,v8=.int .i64 left∧Col RAW acc left∧OT wx (g2+1) v9 acc∧RV wx g1 g2 (.slice none 0 0) (.int .i64 0)∧Below w.heap.size w wx∧g2+1≤wx.heap.size)
   case first J K' h1 h2 =>
    have hjc:(j:Int)<(cap:Int):=by omega
    go_wp2_with fail
    obtain⟨M,hM⟩:=Xq (N-j)
    rw[← hM]
    have hMb:M≤64:=by omega
    have hMj:M+j=N:=by omega
    have HM:=Hd hM
    clear hM
    go_loopw [8,9,51] (fun v8 v9 v51 wr=>∃ (k:Nat) (acc:List Clip) (left:Int),k≤M∧v51=.int .i64 (k:Int)∧v8=.int .i64 left∧0≤left∧left≤2147483647∧Hid (k=0→acc=[]∧left=b-a)∧Hid (0<k→RAW=acc++cutRaw (l.drop (j+k)) 0 left)∧acc.length≤k∧OT wr (g2+1) v9 acc∧RV wr g1 g2 (.slice none 0 0) (.int .i64 0)∧Below w.heap.size w wr∧g2+1≤wr.heap.size) (fun _ _ i _=>M-(intOf i).toNat)
    case atStart=>exact⟨0,[],b-a,Nat.zero_le _,rfl,rfl,by omega,by omega,Hd (fun _=>⟨rfl,rfl⟩),Hd (fun h=>absurd h (by omega)),by simp,OT.nil _ _,HR.out,HB.out,HS.out⟩
    case round =>
     clear HR HB HS
     obtain⟨k,acc,left,hk,rfl,rfl,left0,left1,HK0,HK1,hak,ho,hr,hb,hs⟩:=hrel
     by_cases hlt:k<M
     ·have hlt':(k:Int)<(M:Int):=by omega
      have hjk:j+k<l.length:=by have:=HLe.out;omega
      obtain⟨d,hd⟩:∃ d,l[j+k]?=some d:=⟨_,List.getElem?_eq_getElem hjk⟩
      obtain⟨ao',cap',e,_,_,hT⟩:=HT.out.below hb
      simp only[Value.slice.injEq]at e
      obtain⟨e1,eN,rfl⟩:=e
      clear eN
      subst e1
      obtain⟨bb',oo',e,hA⟩:=hT (j+k) d hd
      simp only[Option.some.injEq,Addr.mk.injEq,and_true]at e
      obtain⟨rfl,rfl⟩:=e
      rw[Nat.add_mul,← Nat.add_assoc]at hA
      have hvd:=HV.out d (List.mem_of_getElem? hd)
      have hd0:=hvd.l.1
      have hd1:=hvd.l.2.1
      have HA:=Hd hA
      have HO:=Hd ho
      have HR:=Hd hr
      have HB:=Hd hb
      have HS:=Hd hs
      have HD:=Hd hd
      have HVD:=Hd hvd
      clear hT hA ho hr hb hs hd hvd hjk
      go_upto_region 10 with fail
      apply wp_region_lit
      iterate 6 go_step
      refine wpl_load HA.out rfl rfl rfl ?_
      refine wpl_alloc rfl rfl (fun w4 hg hb2 hs2=>?_)
      obtain⟨g,hgg⟩:=Xq (wr.heap.size)
      rw[← hgg]at hg ⊢
      have hgn:w.heap.size≤g:=by rw[hgg];exact HB.out.size
      have hgo:∀ g' k' cap',u9=.slice (some ⟨g',0,none⟩) k' cap'→g'<g:=fun g' k' cap' e=>by
       subst e
       have:=HO.out.own.2.1
       omega
      have hg1:g1<g:=by have:=HR.out.lt1;omega
      have hg2:g2<g:=by have:=HR.out.lt2;omega
      have HGO:=Hd hgo
      have HBX:=Hd (And.intro hb2 hgg)
      clear hb2 hs2 hgg HA hgo
      obtain⟨D,hD⟩:=Xq ((clipC d).toArray)
      rw[← hD]
      have HDD:=Hd hD
      clear hD
      simp only[Act.put,sA1,sB1,sC1]
      iterate 3 go_step
      refine wpl_store d hg rfl rfl rfl (by rw[← HDD.out];rfl) ?_
      intro w5 hv ho3 hb3
      have hbw:Below wr.heap.size wr w5:=hb3 _ _ (Nat.le_of_eq HBX.out.2.symm) HBX.out.1
      replace HR:=Hd (HR.out.up hbw)
      replace HO:=Hd (HO.out.below hbw)
      replace HB:=Hd (HB.out.trans (hbw.mono HB.out.size))
      replace HS:=Hd (Nat.le_trans HS.out hbw.size)
      have HX:=Hd hv
      clear hv ho3 hb3 hbw HBX hg
      simp only[Act.put,sA1,sB1,sC1]
      by_cases hl0:left=0
      ·have hk0:0<k:=by
        rcases Nat.eq_zero_or_pos k with e |e
        ·have:=(HK0.out e).2
         omega
        exact e
       have hcol:Col RAW acc 0:=by
        refine⟨?_,by omega,Int.le_refl _,by omega⟩
        rw[if_neg (by omega),List.append_nil,HK1.out hk0,hl0,cutRaw_done _ _ (Int.le_refl _) (Int.le_refl _) (fun x hx=>HG.out x (List.mem_of_mem_drop hx)) (Int.le_refl _),List.append_nil]
       have HC:=Hd hcol
       clear hcol
       subst hl0
       go_wp2_with fail
       refine Met.intro (h1 _ _ ?_)
       (repeat apply Exists.intro)
       exact⟨⟨acc,0,rfl,HC.out,HO.out,HR.out,HB.out,HS.out⟩,rfl⟩
      have hl1:0<left:=by omega
      have hlb:(left==0)=false:=by simpa using hl0
      clear hl0
      obtain⟨x,hx⟩:=Xq ((if k=0 then withLen (shift c m) (c.len-m) else d))
      have HXX:=Hd hx
      clear hx
      go_upto_if 59 with fail
      go_cut [] from 60 to 82 (fun wx=>CV wx g x∧OT wx (g2+1) u9 acc∧RV wx g1 g2 (.slice none 0 0) (.int .i64 0)∧Below w.heap.size w wx∧g2+1≤wx.heap.size)
      case first J2 K2 h3 h4=>
       by_cases hk0:k=0
       ·subst hk0
        have hdc:d=c:=by
         have h:=HD.out
         rw[Nat.add_zero,HJ.out.2.2]at h
         exact(Option.some.inj h).symm
        have hxe:=HXX.out
        rw[if_pos rfl]at hxe
        subst hdc
        subst hxe
        have HAD:=Hd (fun w=>advance_any d m w HVD.out hL hm0 hmc)
        unfold clipV at HAD
        rw[← HDD.out]at HAD
        obtain⟨E,hE⟩:=Xq ((clipC (withLen (shift d m) (d.len-m))).toArray)
        rw[← hE]at HAD
        have HE:=Hd hE
        clear hE
        go_upto_region 13 with fail
        apply wp_region_lit
        refine wpl_load HX.out.c rfl rfl rfl ?_
        rw[← HDD.out]
        simp only[Act.put,sA1,sB1,sC1]
        go_wp2_with fail
        refine(HAD.out _).mono ?_
        rintro e w6 ⟨rfl,hb⟩
        replace HX:=Hd (HX.out.below hb)
        replace HR:=Hd (HR.out.up hb)
        replace HO:=Hd (HO.out.below hb)
        replace HB:=Tb HB hb
        replace HS:=Hd (Nat.le_trans HS.out hb.size)
        clear hb
        dsimp only
        iterate 10 go_step
        refine wpl_store _ HX.out rfl rfl rfl (by rw[← HE.out];rfl) ?_
        intro w7 hv ho3 hb3
        have hbw:Below g w6 w7:=hb3 _ _ (Nat.le_refl _) (Below.refl _ _)
        replace HR:=Hd (HR.out.below hbw hg1 hg2)
        replace HO:=Hd (HO.out.lim HGO.out hbw)
        replace HB:=Hd (hb3 _ _ hgn HB.out)
        replace HS:=Hd (Nat.le_trans HS.out hbw.size)
        replace HX:=Hd hv
        clear hv ho3 hb3 hbw
        simp only[Act.put,sA1,sB1,sC1]
        have y2:=HR.out.c2
        have f2:=HR.out.f2
        go_wp2_with fail
        have hne12:g1≠g2:=by omega
        have hng2:g≠g2:=by omega
        exact Met.intro (h3 _ _ ⟨_,_,_,_,_,_,_,_,_,_,_,_,_,_,_,_,_,_,_,_,_,_,_,⟨HX.out.other hng2 _ _,HO.out.far (p:=⟨g2,0,none⟩) (Nat.lt_succ_self _) _,HR.out.set2 hne12 _,HB.out.setCell (p:=⟨g2,0,none⟩) hn2 _,by rw[World.size_setCell];exact HS.out⟩,rfl⟩)
       have hxe:=HXX.out
       rw[if_neg hk0]at hxe
       subst hxe
       have hk0':(k==0)=false:=by simpa using hk0
       go_wp2_with fail
       exact Met.intro (h3 _ _ ⟨_,_,_,_,_,_,_,_,_,_,_,_,_,_,_,_,_,_,_,_,_,_,_,⟨HX.out,HO.out,HR.out,HB.out,HS.out⟩,rfl⟩)
      clear HX HO HR HB HS
      obtain⟨hx,ho,hr,hb,hs⟩:=hcut
      have HX:=Hd hx
      have HO:=Hd ho
      have HR:=Hd hr
      have HB:=Hd hb
      have HS:=Hd hs
      clear hx ho hr hb hs
      have x0:=HX.out.c.at0.1
      have xf:=HX.out.f
      go_upto_region 17 with fail
      have hgb:g≠g1∧g≠g2:=by omega
      replace HR:=Hd (HR.out.other (fun e=>hgb.1 e.symm) (fun e=>hgb.2 e.symm) 0 (.int .i64 (min x.len left)))
      replace HO:=Hd (HO.out.apart (p:=⟨g,0,none⟩) (fun g' k' cap' e=>Nat.ne_of_gt (HGO.out g' k' cap' e)) (.int .i64 (min x.len left)))
      replace HB:=Hd (HB.out.setCell (p:=⟨g,0,none⟩) hgn (.int .i64 (min x.len left)))
      replace HS:=Hd (show g2+1≤(wc.setCell ⟨g,0,none⟩ (.int .i64 (min x.len left))).heap.size by rw[World.size_setCell];exact HS.out)
      replace HX:=Hd (HX.out.set_len (min x.len left))
      clear x0 xf
      obtain⟨w8,hw8⟩:=Xq (wc.setCell ⟨g,0,none⟩ (.int .i64 (min x.len left)))
      rw[← hw8]at HX HO HR HB HS ⊢
      clear hw8
      obtain⟨y,hy⟩:∃ y:Clip,y={ x with len:=min x.len left }:=⟨_,rfl⟩
      rw[← hy]at HX
      have hyl:y.len=min x.len left:=by rw[hy]
      have HY:=Hd hy
      rw[← hyl]
      have hx1:1≤x.len∧x.len≤2147483647:=by
       rw[HXX.out]
       split
       ·show 1≤c.len-m∧c.len-m≤2147483647
        have h:=HJ.out.2.2
        have:=(HV.out c (List.mem_of_getElem? h)).l.2.1
        omega
       exact⟨hd0,hd1⟩
      have hy1:1≤y.len:=by omega
      have hy2:y.len≤left:=by omega
      clear hy hyl hx1
      apply wp_region_lit
      iterate 3 go_step
      refine wpl_load HX.out.c rfl rfl rfl ?_
      simp only[Act.put,sA1,sB1,sC1]
      obtain⟨Y,hYY⟩:=Xq ((clipC y).toArray)
      rw[← hYY]
      have HYY:=Hd hYY
      clear hYY
      refine Great.wpList_buildSliceTo rfl 22 48 1 #[(0,.tmp 75)] rfl w8.heap.size rfl _ rfl Tryz.underlying22 Y ?_ ?_
      ·simp only[List.map_toArray,List.map_cons,List.map_nil,List.toList_toArray]
       rw[HYY.out]
       exact built_clip y
      have hb:Below w8.heap.size w8 (w8.alloc (.cells Y 48)):=below_box _ _
      have hbx:CA (w8.alloc (.cells Y 48)) w8.heap.size 0 y:=by rw[HYY.out];exact CA.box w8 y 48
      replace HX:=Hd (HX.out.below hb)
      replace HR:=Hd (HR.out.up hb)
      replace HO:=Hd (HO.out.below hb)
      replace HB:=Tb HB hb
      replace HS:=Hd (Nat.le_trans HS.out hb.size)
      clear hb
      simp only[Act.put,sA1,sB1,sC1]
      refine wpList_appT 22 Tryz.underlying22 _ rfl (.tmp 74) (.tmp 76) rfl rfl (g2+1) u9 acc rfl HO.out HS.out w8.heap.size 1 y rfl hbx (by omega) ?_
      intro v' w9 r1 r2 r3 r4
      simp only[Act.put,sA1,sB1,sC1]
      have HGL:=Hd HX.out.lt
      replace HX:=Hd (HX.out.same (r3 g HX.out.lt (fun g' cap' e=>Nat.ne_of_gt (HGO.out g' _ cap' e))))
      replace HO:=Hd r1
      replace HR:=Hd (HR.out.below r2 (by omega) (by omega))
      replace HB:=Hd (HB.out.trans (r2.mono (by omega)))
      replace HS:=Hd (Nat.le_trans HS.out r4)
      clear r1 r2 r3 r4 hbx
      have x0:=HX.out.c.at0.1
      have hraw:RAW=(acc++[y])++cutRaw (l.drop (j+(k+1))) 0 (left-y.len):=by
       rcases Nat.eq_zero_or_pos k with e |e
       ·subst e
        obtain⟨ha,hb⟩:=HK0.out rfl
        have h:=HJ.out
        have hy:y=withLen (shift c m) (min (c.len-m) left):=by rw[HY.out,HXX.out,if_pos rfl];rfl
        have hn:=HN.out
        have hyl:y.len=min (c.len-m) (b-a):=by rw[hy,hb];rfl
        rw[HRAW.out,ha,hyl,hy,hb,hn,show a=Trk.total (l.take j)+m by omega]
        exact cutRaw_at HG.out h.2.2 hm0 hmc (by omega)
       have hx:x=d:=by rw[HXX.out,if_neg (by omega)]
       have hjk:=(List.getElem?_eq_some_iff.1 HD.out)
       have hdr:l.drop (j+k)=d::l.drop (j+(k+1)):=by
        obtain⟨h1,h2⟩:=hjk
        rw[List.drop_eq_getElem_cons h1,h2,Nat.add_assoc]
       have hy:y=withLen d (min d.len left):=by rw[HY.out,hx];rfl
       have hyl:y.len=min d.len left:=by rw[hy];rfl
       rw[HK1.out e,hdr,cutRaw_zero HVD.out.good hl1,hyl,hy,List.append_assoc]
       rfl
      have HRW:=Hd hraw
      clear hraw
      go_wp2_with fail
      refine⟨⟨k+1,acc++[y],left-y.len,by omega,by simp,rfl,by omega,by omega,Hd (fun h=>absurd h (by omega)),Hd (fun _=>HRW.out),by simp;omega,HO.out,HR.out,HB.out,HS.out⟩,?_⟩
      show M-(intOf (.int .i64 ((k:Int)+1))).toNat<M-(intOf (.int .i64 (k:Int))).toNat
      simp[intOf]
      omega
     have hkM:k=M:=by omega
     have hk0:0<k:=by omega
     have hcol:Col RAW acc left:=by
      refine⟨?_,by omega,left0,left1⟩
      rw[HK1.out hk0,List.drop_eq_nil_of_le (by have:=HLe.out;omega)]
      rfl
     have HC:=Hd hcol
     have HO:=Hd ho
     have HR:=Hd hr
     have HB:=Hd hb
     have HS:=Hd hs
     clear HT hcol ho hr hb hs
     subst hkM
     go_wp2_with fail
     refine Met.intro (h1 _ _ ?_)
     (repeat apply Exists.intro)
     exact⟨⟨acc,left,rfl,HC.out,HO.out,HR.out,HB.out,HS.out⟩,rfl⟩
   obtain⟨acc,left,e8,hcol,ho,hr,hb,hs⟩:=hcut
   subst e8
   have HC:=Hd hcol
   have HO:=Hd ho
   clear HR HB HS
   have HR:=Hd hr
   have HB:=Hd hb
   have HS:=Hd hs
   clear hcol ho hr hb hs
   have HPK:=Hd (fun(l':List Clip) v' w' (h:Tk w' v' l') (hV:VL L l') (hn:l'.length≤1048576) (ht:Trk.total l'≤4611686018427387904)=>pack_any v' l' w' h (fun c hc=>VC.okC (hV c hc) hL) hn ht)
   have hlf:=HC.out.l
   have hlm:=HC.out.m
   have han:=HC.out.n
   have hrt:Trk.total RAW≤2147483647:=by have:=HRT.out;omega
   have hrn:RAW.length≤65:=by have:=HRL.out;omega
   have HRB:=Hd (And.intro hrt hrn)
   clear hrt hrn
   have hne12:g1≠g2:=by omega
   by_cases hlp:0<left
   ·go_upto_region 21 with fail
    apply wp_region_lit
    iterate 6 go_step
    iterate 3 go_step
    refine Great.wpList_buildSliceTo rfl 22 48 1 #[(0,.tmp 87)] rfl _ rfl _ rfl Tryz.underlying22 (clipC (gap left)).toArray ?_ ?_
    ·simp only[List.map_toArray,List.map_cons,List.map_nil,List.toList_toArray]
     exact built_clip (gap left)
    obtain⟨WW,hWW⟩:∃ W:World,W=wc:=⟨_,rfl⟩
    rw[← hWW]at HR HO HB HS ⊢
    clear hWW
    have hb:Below WW.heap.size WW (WW.alloc (.cells (clipC (gap left)).toArray 48)):=below_box _ _
    have hbx:CA (WW.alloc (.cells (clipC (gap left)).toArray 48)) WW.heap.size 0 (gap left):=CA.box WW (gap left) 48
    replace HR:=Hd (HR.out.up hb)
    replace HO:=Hd (HO.out.below hb)
    replace HB:=Tb HB hb
    replace HS:=Hd (Nat.le_trans HS.out hb.size)
    clear hb
    simp only[Act.put,sA1,sB1,sC1]
    refine wpList_appT 22 Tryz.underlying22 _ rfl (.tmp 85) (.tmp 88) rfl rfl (g2+1) u9 acc rfl HO.out HS.out WW.heap.size 1 (gap left) rfl hbx han ?_
    intro v9 w9 q1 q2 q3 q4
    simp only[Act.put,sA1,sB1,sC1]
    replace HO:=Hd q1
    replace HR:=Hd (HR.out.below q2 (by omega) (by omega))
    replace HB:=Hd (HB.out.trans (q2.mono (by omega)))
    replace HS:=Hd (Nat.le_trans HS.out q4)
    clear q1 q2 q3 q4 hbx
    have HE:=Hd (show RAW=acc++[gap left] by have h:=HC.out.e;rw[if_pos hlp]at h;exact h)
    go_wp2_with fail
    refine(HPK.out RAW _ _ (by rw[HE.out];exact HO.out.tk) HRV.out (by have:=HRB.out;omega) (by have:=HRB.out;omega)).mono ?_
    rintro e w10 ⟨v',rfl,ho,hb⟩
    obtain⟨ar,cr,rfl,hcr,hcr2,_⟩:=ho.tk
    obtain⟨nr,hnr⟩:=Xq ((pk RAW).length)
    rw[← hnr]at ho hlen hcr ⊢
    replace HR:=Hd (HR.out.up hb)
    replace HB:=Tb HB hb
    have HP:=Hd (ho.lower HS.out)
    clear ho hb hnr
    have r1:=HR.out.c1
    have r2:=HR.out.f1
    have r3:=HR.out.c2
    have r4:=HR.out.f2
    go_wp2_with fail
    refine leaves_cons (f:=67) (args:=#[.pointer (some ⟨g1,0,none⟩),.pointer (some ⟨g2,0,none⟩)]) (by simp) (by simp[go_sem]) ?_
    refine(idle50 _ _ _).mono ?_
    rintro e u' w'' ⟨rfl,rfl,rfl⟩
    have hne21:g2≠g1:=hne12.symm
    simp[Leaves,settle,results,Tryz.results30,go_sem,r1,r3,hne12,hne21]
    exact⟨(((HP.out.far (p:=⟨g1,0,none⟩) (by show g1<g2+1;omega) _).far (p:=⟨g1,0,none⟩) (by show g1<g2+1;omega) _).far (p:=⟨g2,0,none⟩) (by show g2<g2+1;omega) _).lower (by omega),
     ((HB.out.setCell (p:=⟨g1,0,none⟩) hn1 _).setCell (p:=⟨g1,0,none⟩) hn1 _).setCell (p:=⟨g2,0,none⟩) hn2 _⟩
   have HE:=Hd (show RAW=acc by have h:=HC.out.e;rw[if_neg hlp,List.append_nil]at h;exact h)
   go_wp2_with fail
   refine(HPK.out RAW _ _ (by rw[HE.out];exact HO.out.tk) HRV.out (by have:=HRB.out;omega) (by have:=HRB.out;omega)).mono ?_
   rintro e w10 ⟨v',rfl,ho,hb⟩
   obtain⟨ar,cr,rfl,hcr,hcr2,_⟩:=ho.tk
   obtain⟨nr,hnr⟩:=Xq ((pk RAW).length)
   rw[← hnr]at ho hlen hcr ⊢
   replace HR:=Hd (HR.out.up hb)
   replace HB:=Tb HB hb
   have HP:=Hd (ho.lower HS.out)
   clear ho hb hnr
   have r1:=HR.out.c1
   have r2:=HR.out.f1
   have r3:=HR.out.c2
   have r4:=HR.out.f2
   go_wp2_with fail
   refine leaves_cons (f:=67) (args:=#[.pointer (some ⟨g1,0,none⟩),.pointer (some ⟨g2,0,none⟩)]) (by simp) (by simp[go_sem]) ?_
   refine(idle50 _ _ _).mono ?_
   rintro e u' w'' ⟨rfl,rfl,rfl⟩
   have hne21:g2≠g1:=hne12.symm
   simp[Leaves,settle,results,Tryz.results30,go_sem,r1,r3,hne12,hne21]
   exact⟨(((HP.out.far (p:=⟨g1,0,none⟩) (by show g1<g2+1;omega) _).far (p:=⟨g1,0,none⟩) (by show g1<g2+1;omega) _).far (p:=⟨g2,0,none⟩) (by show g2<g2+1;omega) _).lower (by omega),
    ((HB.out.setCell (p:=⟨g1,0,none⟩) hn1 _).setCell (p:=⟨g1,0,none⟩) hn1 _).setCell (p:=⟨g2,0,none⟩) hn2 _⟩
  have hn0:n=0:=by omega
  have hab:decide (a<b)=false:=decide_eq_false (by have:=HN.out;omega)
  have hcol:Col RAW [] (b-a):=by
   have h:=HN.out
   refine⟨?_,by simp,by omega,by omega⟩
   rw[if_neg (by omega),HRAW.out,cutRaw_done _ _ (by omega) n0 HG.out a0]
   rfl
  have HC:=Hd hcol
  clear ef hcol hm hc hat
  go_upto_if 46 with fail
  go_upto_region 20 with fail
  obtain⟨acc,hacc⟩:∃ acc:List Clip,acc=[]:=⟨_,rfl⟩
  rw[← hacc]at HC
  have HO:=Hd (show OT w3 (g2+1) (.slice none 0 0) acc by rw[hacc];exact OT.nil _ _)
  clear hacc
  obtain⟨left,hleft⟩:=Xq (b-a)
  rw[← hleft]at HC ⊢
  clear hleft hab
  have HPK:=Hd (fun(l':List Clip) v' w' (h:Tk w' v' l') (hV:VL L l') (hn:l'.length≤1048576) (ht:Trk.total l'≤4611686018427387904)=>pack_any v' l' w' h (fun c hc=>VC.okC (hV c hc) hL) hn ht)
  have hlf:=HC.out.l
  have hlm:=HC.out.m
  have han:=HC.out.n
  have hrt:Trk.total RAW≤2147483647:=by have:=HRT.out;omega
  have hrn:RAW.length≤65:=by have:=HRL.out;omega
  have HRB:=Hd (And.intro hrt hrn)
  clear hrt hrn
  have hne12:g1≠g2:=by omega
  by_cases hlp:0<left
  ·go_upto_region 21 with fail
   apply wp_region_lit
   iterate 6 go_step
   iterate 3 go_step
   refine Great.wpList_buildSliceTo rfl 22 48 1 #[(0,.tmp 87)] rfl _ rfl _ rfl Tryz.underlying22 (clipC (gap left)).toArray ?_ ?_
   ·simp only[List.map_toArray,List.map_cons,List.map_nil,List.toList_toArray]
    exact built_clip (gap left)
   obtain⟨WW,hWW⟩:∃ W:World,W=w3:=⟨_,rfl⟩
   rw[← hWW]at HR HO HB HS ⊢
   clear hWW
   have hb:Below WW.heap.size WW (WW.alloc (.cells (clipC (gap left)).toArray 48)):=below_box _ _
   have hbx:CA (WW.alloc (.cells (clipC (gap left)).toArray 48)) WW.heap.size 0 (gap left):=CA.box WW (gap left) 48
   replace HR:=Hd (HR.out.up hb)
   replace HO:=Hd (HO.out.below hb)
   replace HB:=Tb HB hb
   replace HS:=Hd (Nat.le_trans HS.out hb.size)
   clear hb
   simp only[Act.put,sA1,sB1,sC1]
   refine wpList_appT 22 Tryz.underlying22 _ rfl (.tmp 85) (.tmp 88) rfl rfl (g2+1) (.slice none 0 0) acc rfl HO.out HS.out WW.heap.size 1 (gap left) rfl hbx han ?_
   intro v9 w9 q1 q2 q3 q4
   simp only[Act.put,sA1,sB1,sC1]
   replace HO:=Hd q1
   replace HR:=Hd (HR.out.below q2 (by omega) (by omega))
   replace HB:=Hd (HB.out.trans (q2.mono (by omega)))
   replace HS:=Hd (Nat.le_trans HS.out q4)
   clear q1 q2 q3 q4 hbx
   have HE:=Hd (show RAW=acc++[gap left] by have h:=HC.out.e;rw[if_pos hlp]at h;exact h)
   go_wp2_with fail
   refine(HPK.out RAW _ _ (by rw[HE.out];exact HO.out.tk) HRV.out (by have:=HRB.out;omega) (by have:=HRB.out;omega)).mono ?_
   rintro e w10 ⟨v',rfl,ho,hb⟩
   obtain⟨ar,cr,rfl,hcr,hcr2,_⟩:=ho.tk
   obtain⟨nr,hnr⟩:=Xq ((pk RAW).length)
   rw[← hnr]at ho hlen hcr ⊢
   replace HR:=Hd (HR.out.up hb)
   replace HB:=Tb HB hb
   have HP:=Hd (ho.lower HS.out)
   clear ho hb hnr
   have r1:=HR.out.c1
   have r2:=HR.out.f1
   have r3:=HR.out.c2
   have r4:=HR.out.f2
   go_wp2_with fail
   refine leaves_cons (f:=67) (args:=#[.pointer (some ⟨g1,0,none⟩),.pointer (some ⟨g2,0,none⟩)]) (by simp) (by simp[go_sem]) ?_
   refine(idle50 _ _ _).mono ?_
   rintro e u' w'' ⟨rfl,rfl,rfl⟩
   have hne21:g2≠g1:=hne12.symm
   simp[Leaves,settle,results,Tryz.results30,go_sem,r1,r3,hne12,hne21]
   exact⟨(((HP.out.far (p:=⟨g1,0,none⟩) (by show g1<g2+1;omega) _).far (p:=⟨g1,0,none⟩) (by show g1<g2+1;omega) _).far (p:=⟨g2,0,none⟩) (by show g2<g2+1;omega) _).lower (by omega),
    ((HB.out.setCell (p:=⟨g1,0,none⟩) hn1 _).setCell (p:=⟨g1,0,none⟩) hn1 _).setCell (p:=⟨g2,0,none⟩) hn2 _⟩
  have HE:=Hd (show RAW=acc by have h:=HC.out.e;rw[if_neg hlp,List.append_nil]at h;exact h)
  go_wp2_with fail
  refine(HPK.out RAW _ _ (by rw[HE.out];exact HO.out.tk) HRV.out (by have:=HRB.out;omega) (by have:=HRB.out;omega)).mono ?_
  rintro e w10 ⟨v',rfl,ho,hb⟩
  obtain⟨ar,cr,rfl,hcr,hcr2,_⟩:=ho.tk
  obtain⟨nr,hnr⟩:=Xq ((pk RAW).length)
  rw[← hnr]at ho hlen hcr ⊢
  replace HR:=Hd (HR.out.up hb)
  replace HB:=Tb HB hb
  have HP:=Hd (ho.lower HS.out)
  clear ho hb hnr
  have r1:=HR.out.c1
  have r2:=HR.out.f1
  have r3:=HR.out.c2
  have r4:=HR.out.f2
  go_wp2_with fail
  refine leaves_cons (f:=67) (args:=#[.pointer (some ⟨g1,0,none⟩),.pointer (some ⟨g2,0,none⟩)]) (by simp) (by simp[go_sem]) ?_
  refine(idle50 _ _ _).mono ?_
  rintro e u' w'' ⟨rfl,rfl,rfl⟩
  have hne21:g2≠g1:=hne12.symm
  simp[Leaves,settle,results,Tryz.results30,go_sem,r1,r3,hne12,hne21]
  exact⟨(((HP.out.far (p:=⟨g1,0,none⟩) (by show g1<g2+1;omega) _).far (p:=⟨g1,0,none⟩) (by show g1<g2+1;omega) _).far (p:=⟨g2,0,none⟩) (by show g2<g2+1;omega) _).lower (by omega),
   ((HB.out.setCell (p:=⟨g1,0,none⟩) hn1 _).setCell (p:=⟨g1,0,none⟩) hn1 _).setCell (p:=⟨g2,0,none⟩) hn2 _⟩
 have ef:=findL_none (l:=l) (n:=a) (i:=0) HG.out (by omega)
 rw[ef]
 simp only[findV]
 have hcol:Col RAW [] (b-a):=by
  have h:=HN.out
  refine⟨?_,by simp,by omega,by omega⟩
  rw[HRAW.out,cutRaw_out HG.out (by omega) n0,← h]
  rfl
 have HC:=Hd hcol
 clear ef hcol hat
 go_upto_if 46 with fail
 go_upto_region 20 with fail
 obtain⟨acc,hacc⟩:∃ acc:List Clip,acc=[]:=⟨_,rfl⟩
 rw[← hacc]at HC
 have HO:=Hd (show OT w3 (g2+1) (.slice none 0 0) acc by rw[hacc];exact OT.nil _ _)
 clear hacc
 obtain⟨left,hleft⟩:=Xq (b-a)
 rw[← hleft]at HC ⊢
 clear hleft
 have HPK:=Hd (fun(l':List Clip) v' w' (h:Tk w' v' l') (hV:VL L l') (hn:l'.length≤1048576) (ht:Trk.total l'≤4611686018427387904)=>pack_any v' l' w' h (fun c hc=>VC.okC (hV c hc) hL) hn ht)
 have hlf:=HC.out.l
 have hlm:=HC.out.m
 have han:=HC.out.n
 have hrt:Trk.total RAW≤2147483647:=by have:=HRT.out;omega
 have hrn:RAW.length≤65:=by have:=HRL.out;omega
 have HRB:=Hd (And.intro hrt hrn)
 clear hrt hrn
 have hne12:g1≠g2:=by omega
 by_cases hlp:0<left
 ·go_upto_region 21 with fail
  apply wp_region_lit
  iterate 6 go_step
  iterate 3 go_step
  refine Great.wpList_buildSliceTo rfl 22 48 1 #[(0,.tmp 87)] rfl _ rfl _ rfl Tryz.underlying22 (clipC (gap left)).toArray ?_ ?_
  ·simp only[List.map_toArray,List.map_cons,List.map_nil,List.toList_toArray]
   exact built_clip (gap left)
  obtain⟨WW,hWW⟩:∃ W:World,W=w3:=⟨_,rfl⟩
  rw[← hWW]at HR HO HB HS ⊢
  clear hWW
  have hb:Below WW.heap.size WW (WW.alloc (.cells (clipC (gap left)).toArray 48)):=below_box _ _
  have hbx:CA (WW.alloc (.cells (clipC (gap left)).toArray 48)) WW.heap.size 0 (gap left):=CA.box WW (gap left) 48
  replace HR:=Hd (HR.out.up hb)
  replace HO:=Hd (HO.out.below hb)
  replace HB:=Tb HB hb
  replace HS:=Hd (Nat.le_trans HS.out hb.size)
  clear hb
  simp only[Act.put,sA1,sB1,sC1]
  refine wpList_appT 22 Tryz.underlying22 _ rfl (.tmp 85) (.tmp 88) rfl rfl (g2+1) (.slice none 0 0) acc rfl HO.out HS.out WW.heap.size 1 (gap left) rfl hbx han ?_
  intro v9 w9 q1 q2 q3 q4
  simp only[Act.put,sA1,sB1,sC1]
  replace HO:=Hd q1
  replace HR:=Hd (HR.out.below q2 (by omega) (by omega))
  replace HB:=Hd (HB.out.trans (q2.mono (by omega)))
  replace HS:=Hd (Nat.le_trans HS.out q4)
  clear q1 q2 q3 q4 hbx
  have HE:=Hd (show RAW=acc++[gap left] by have h:=HC.out.e;rw[if_pos hlp]at h;exact h)
  go_wp2_with fail
  refine(HPK.out RAW _ _ (by rw[HE.out];exact HO.out.tk) HRV.out (by have:=HRB.out;omega) (by have:=HRB.out;omega)).mono ?_
  rintro e w10 ⟨v',rfl,ho,hb⟩
  obtain⟨ar,cr,rfl,hcr,hcr2,_⟩:=ho.tk
  obtain⟨nr,hnr⟩:=Xq ((pk RAW).length)
  rw[← hnr]at ho hlen hcr ⊢
  replace HR:=Hd (HR.out.up hb)
  replace HB:=Tb HB hb
  have HP:=Hd (ho.lower HS.out)
  clear ho hb hnr
  have r1:=HR.out.c1
  have r2:=HR.out.f1
  have r3:=HR.out.c2
  have r4:=HR.out.f2
  go_wp2_with fail
  refine leaves_cons (f:=67) (args:=#[.pointer (some ⟨g1,0,none⟩),.pointer (some ⟨g2,0,none⟩)]) (by simp) (by simp[go_sem]) ?_
  refine(idle50 _ _ _).mono ?_
  rintro e u' w'' ⟨rfl,rfl,rfl⟩
  have hne21:g2≠g1:=hne12.symm
  simp[Leaves,settle,results,Tryz.results30,go_sem,r1,r3,hne12,hne21]
  exact⟨(((HP.out.far (p:=⟨g1,0,none⟩) (by show g1<g2+1;omega) _).far (p:=⟨g1,0,none⟩) (by show g1<g2+1;omega) _).far (p:=⟨g2,0,none⟩) (by show g2<g2+1;omega) _).lower (by omega),
   ((HB.out.setCell (p:=⟨g1,0,none⟩) hn1 _).setCell (p:=⟨g1,0,none⟩) hn1 _).setCell (p:=⟨g2,0,none⟩) hn2 _⟩
 have HE:=Hd (show RAW=acc by have h:=HC.out.e;rw[if_neg hlp,List.append_nil]at h;exact h)
 go_wp2_with fail
 refine(HPK.out RAW _ _ (by rw[HE.out];exact HO.out.tk) HRV.out (by have:=HRB.out;omega) (by have:=HRB.out;omega)).mono ?_
 rintro e w10 ⟨v',rfl,ho,hb⟩
 obtain⟨ar,cr,rfl,hcr,hcr2,_⟩:=ho.tk
 obtain⟨nr,hnr⟩:=Xq ((pk RAW).length)
 rw[← hnr]at ho hlen hcr ⊢
 replace HR:=Hd (HR.out.up hb)
 replace HB:=Tb HB hb
 have HP:=Hd (ho.lower HS.out)
 clear ho hb hnr
 have r1:=HR.out.c1
 have r2:=HR.out.f1
 have r3:=HR.out.c2
 have r4:=HR.out.f2
 go_wp2_with fail
 refine leaves_cons (f:=67) (args:=#[.pointer (some ⟨g1,0,none⟩),.pointer (some ⟨g2,0,none⟩)]) (by simp) (by simp[go_sem]) ?_
 refine(idle50 _ _ _).mono ?_
 rintro e u' w'' ⟨rfl,rfl,rfl⟩
 have hne21:g2≠g1:=hne12.symm
 simp[Leaves,settle,results,Tryz.results30,go_sem,r1,r3,hne12,hne21]
 exact⟨(((HP.out.far (p:=⟨g1,0,none⟩) (by show g1<g2+1;omega) _).far (p:=⟨g1,0,none⟩) (by show g1<g2+1;omega) _).far (p:=⟨g2,0,none⟩) (by show g2<g2+1;omega) _).lower (by omega),
  ((HB.out.setCell (p:=⟨g1,0,none⟩) hn1 _).setCell (p:=⟨g1,0,none⟩) hn1 _).setCell (p:=⟨g2,0,none⟩) hn2 _⟩
theorem Tk.cell {w:World} {b o k cap:Nat} {l:List Clip} (h:Tk w (.slice (some ⟨b,o,none⟩) k cap) l) {j:Nat} {u:Value} (hu:(cells l)[j]?=some u):w.cell? ((⟨b,o,none⟩:Addr).add j)=some u:=by
 obtain⟨ao,c,e,h1,h2,h3⟩:=h
 simp only[Value.slice.injEq]at e
 obtain⟨e1,_,_⟩:=e
 have hj:j<l.length*22:=by rw[← cells_length];exact(List.getElem?_eq_some_iff.1 hu).1
 have hi:j / 22<l.length:=by omega
 obtain⟨c,hc⟩:∃ c,l[j / 22]?=some c:=⟨_,List.getElem?_eq_getElem hi⟩
 obtain⟨b',o',e',hA⟩:=h3 _ c hc
 rw[← e1]at e'
 simp only[Option.some.injEq,Addr.mk.injEq,and_true]at e'
 obtain⟨rfl,rfl⟩:=e'
 have hm:j % 22<22:=Nat.mod_lt _ (by decide)
 have hg:=cells_get hc hm
 rw[show j / 22*22+j % 22=j by omega,hu]at hg
 rw[Addr.add_mid,show o+j=o+j / 22*22+j % 22 by omega]
 exact hA.get _ _ hg.symm
theorem append_same (T1 T2 ty:TypeId) (h1:Tryz.prog.underlying T1=some (.slice 48)) (h2:Tryz.prog.underlying T2=some (.slice 48)) (base:Option Addr) (n c:Nat) (u:Value) (w:World) :
  (Builtin.append_ #[T1,T2] ty #[.slice base n c,u]).run Tryz.prog w=(Builtin.append_ #[23,23] 23 #[.slice base n c,u]).run Tryz.prog w:=by
 simp[Builtin.append_,run_underlying h1,run_underlying h2,run_underlying Tryz.underlying23]
theorem run_appM (w:World) (B:Nat) (v u:Value) (l m:List Clip) (h:OT w B v l) (hB:B≤w.heap.size) (hm:Tk w u m) (hl:l.length+m.length≤1048576) :
  ∃ v' w',(Builtin.append_ #[23,23] 23 #[v,u]).run Tryz.prog w=.ok v' w'∧OT w' B v' (l++m)∧Below B w w'∧(∀ b,b<w.heap.size→(∀ g cap,v=.slice (some ⟨g,0,none⟩) l.length cap→b≠g)→w'.heap[b]?=w.heap[b]?)∧w.heap.size≤w'.heap.size:=by
 obtain⟨i0,hi,hz0,hz1,hz2⟩:=info_parts info53
 cases m with
 | nil =>
  obtain⟨ao,c,rfl,_⟩:=hm
  rw[List.append_nil]
  refine⟨v,w,?_,h,Below.refl _ _,fun _ _ _=>rfl,Nat.le_refl _⟩
  have hf:∀ w:World,(Builtin.firstCells i0.size 0 (.slice ao 0 c)).run Tryz.prog w=.ok #[] w:=by
   intro w
   cases ao with
   |none=>simp[Builtin.firstCells]
   |some a=>simp[Builtin.firstCells,loadCells,loadCellsFrom]
  obtain⟨rfl,rfl⟩ |⟨g,cap,rfl⟩:=h.shape
  ·simp[Builtin.append_,run_underlying Tryz.underlying23,sizeOf,typeInfo,hi,Builtin.lenOf,hf]
  have hk:l.length≤cap:=by
   obtain⟨ao',c',e,h1,_⟩:=h.tk
   simp only[Value.slice.injEq]at e
   omega
  simp[Builtin.append_,run_underlying Tryz.underlying23,sizeOf,typeInfo,hi,Builtin.lenOf,hf,hk,storeCells]
 | cons d m =>
  obtain⟨ao,c,rfl,h1,h2,h3⟩:=hm
  obtain⟨b,o,rfl,_⟩:=h3 0 d rfl
  have hT:Tk w (.slice (some ⟨b,o,none⟩) (d::m).length c) (d::m):=⟨_,c,rfl,h1,h2,h3⟩
  obtain⟨v',w',hrun,r1,r2,r3,r4,r5⟩:=append_x w B 23 48 22 216 zClip Tryz.underlying23 info53 zeros53 v l.length (cells l) h hB ⟨b,o,none⟩ (d::m).length c (cells (d::m)) (cells_length _) (fun j u hu=>hT.cell hu)
   (fun u hu => by
    obtain⟨x,_,hx⟩:=List.mem_flatMap.1 hu
    exact clip_one x u hx) (by simp) (by unfold maxLen;omega) (fun cap h1 h2=>growslice_fits h2 (by omega))
  refine⟨v',w',hrun,?_,r2,r4,r5⟩
  show RowX w' B 48 22 v' (l++d::m).length (cells (l++d::m))
  rw[cells_append,List.length_append]
  exact r1
theorem wpList_appM (w:World) {ops:Array Oper} {rest:List Oper} {op:Oper} {a:Act} {Q:Exit→Act→World→Prop} (T1 T2:TypeId) (h1:Tryz.prog.underlying T1=some (.slice 48)) (h2:Tryz.prog.underlying T2=some (.slice 48)) (hg:op.guard=none) (s x:Operand)
  (hop:op.op=.call { callee:=.builtin .append,args:=#[s,x],argTypes:=#[T1,T2] }) (B:Nat) (v u:Value) (l m:List Clip) (hs:a.eval s=v) (hx:a.eval x=u) (h:OT w B v l) (hB:B≤w.heap.size) (hm:Tk w u m) (hl:l.length+m.length≤1048576)
  (hK:∀ v' w',OT w' B v' (l++m)→Below B w w'→(∀ b,b<w.heap.size→(∀ g cap,v=.slice (some ⟨g,0,none⟩) l.length cap→b≠g)→w'.heap[b]?=w.heap[b]?)→w.heap.size≤w'.heap.size→wpList Tryz.prog ops Q rest (a.put op.dst v') w'):wpList Tryz.prog ops Q (op::rest) a w:=by
 refine wpList_plain hg fun K hK'=>?_
 obtain⟨v',w',hrun,r2,r3,r4,r5⟩:=run_appM w B v u l m h hB hm hl
 obtain⟨ao,ca,e,_⟩:=h.tk
 have hrun':(Builtin.append_ #[T1,T2] op.type #[v,u]).run Tryz.prog w=.ok v' w':=by
  rw[e]at hrun ⊢
  exact(append_same T1 T2 op.type h1 h2 ao l.length ca u w).trans hrun
 unfold Oper.wp
 simp[execOp,hop,resolve,invoke,builtin,hs,hx,hrun',Result.andThen]
 exact hK' _ _ (hK v' w' r2 r3 r4 r5)
theorem OT.box (w:World) (c:Clip):OT (w.alloc (.cells (clipC c).toArray 48)) w.heap.size (.slice (some ⟨w.heap.size,0,none⟩) 1 1) [c]:=by
 have hh:=(MapKept.heap_alloc w (.cells (clipC c).toArray 48)).1
 refine Or.inr ⟨w.heap.size,1,_,rfl,Nat.le_refl _,hh,Nat.le_refl _,by unfold maxLen;omega,by simp[clipC_length],?_,by rw[cells_length]⟩
 simp only[List.length_cons,List.length_nil,Nat.zero_add,Nat.one_mul,cells_one]
 exact List.take_of_length_le (by simp[clipC_length])
theorem gap_any (n:Int) (w:World):Calls Tryz.prog 124 #[.int .i64 n] w (OTPost w (if 0<n then[gap n] else[])):=by
 by_cases hn:0<n
 ·rw[if_pos hn]
  go_enter Tryz.func124,Tryz.ntmps124
  go_upto_region 3 with fail
  apply wp_region_lit
  iterate 3 go_step
  iterate 3 go_step
  refine Great.wpList_buildSliceTo rfl 22 48 1 #[(0,.tmp 6)] rfl _ rfl _ rfl Tryz.underlying22 (clipC (gap n)).toArray ?_ ?_
  ·simp only[List.map_toArray,List.map_cons,List.map_nil,List.toList_toArray]
   exact built_clip (gap n)
  have HO:=Hd (OT.box w (gap n))
  have hb:=Hd (below_box w (.cells (clipC (gap n)).toArray 48))
  obtain⟨w1,hw1⟩:=Xq (w.alloc (.cells (clipC (gap n)).toArray 48))
  rw[← hw1]at HO hb ⊢
  clear hw1
  simp only[Act.put,sA1,sB1,sC1]
  go_wp2_with fail
  go_ret
  exact⟨_,rfl,HO.out,hb.out⟩
 rw[if_neg hn]
 go_enter Tryz.func124,Tryz.ntmps124
 go_wp2_with fail
 go_ret
 exact⟨_,rfl,OT.nil _ _,Below.refl _ _⟩
theorem OT.room (w:World) (B g cap:Nat) (cur:Array Value) (hB:B≤g) (hg:w.heap[g]?=some (.cells cur 48 (0,0))) (hs:cur.size=cap*22) (hc:cap≤maxLen):OT w B (.slice (some ⟨g,0,none⟩) 0 cap) []:=
 Or.inr ⟨g,cap,cur,rfl,hB,hg,Nat.zero_le _,hc,hs,by simp[cells],by simp[cells]⟩
theorem grow_nil (n:Nat) (w:World) (hn:n≤1048576):Calls Tryz.prog 113 #[.slice none 0 0,.int .i64 (n:Int)] w (OTPost w []):=by
 by_cases h0:0<n
 ·obtain⟨i0,hi,hz0,hz1,hz2⟩:=info_parts info53
  have hrun:=Lib.run_append_nil_zeros (P:=Tryz.prog) w 23 3 23 48 i0 zClip .i64 .i64 Tryz.underlying23 Tryz.underlying3 hi hz0 n h0 (by omega) (by omega) (by rw[hz2];omega)
  have hcap:n≤grownCap w n 0 48:=grownCap_ge w n 0 48
  have hcm:=grownCap_le_maxLen w n 0 48 (by unfold maxLen;omega)
  have HRUN:=Hd hrun
  have hn':(0:Int)<(n:Int):=by omega
  clear hrun hi hz0 hz1 hz2
  go_enter Tryz.func113,Tryz.ntmps113
  go_upto_region 5 with fail
  apply wp_region_lit
  iterate 15 go_step
  refine Lib.wpList_append_run (P:=Tryz.prog) w rfl (.tmp 20) (.tmp 21) 23 3 rfl (.slice none 0 0) (.int .i64 (n:Int)) rfl rfl _ _ HRUN.out ?_
  obtain⟨w1,hw1⟩:=Xq (w.drew.alloc (.cells (Builtin.zeroCells zClip.cells n++Builtin.zeroCells zClip.cells (grownCap w n 0 48-n)) 48))
  rw[← hw1]
  have hb:Below w.heap.size w w1:=by rw[hw1];exact((Below.refl _ w).drew).alloc (by simp) _
  have ho:OT w1 w.heap.size (.slice (some ⟨w.heap.size,0,none⟩) 0 (grownCap w n 0 48)) []:=by
   rw[hw1]
   refine OT.room _ _ _ _ _ (Nat.le_refl _) (MapKept.heap_alloc w.drew _).1 ?_ hcm
   rw[Array.size_append,zeros53,zeros53,← Nat.add_mul,Nat.add_sub_cancel' hcap]
  have HO:=Hd (And.intro ho hb)
  obtain⟨C,hC⟩:=Xq (grownCap w n 0 48)
  rw[← hC]at HO hcap ⊢
  obtain⟨g,hg⟩:=Xq (w.heap.size)
  rw[← hg]at HO ⊢
  have HGG:=Hd hg
  clear hw1 hb ho hC hcm HRUN hg
  simp only[Act.put,sA1,sB1,sC1]
  go_wp2_with fail
  go_ret
  unfold OTPost
  rw[← HGG.out]
  exact⟨_,rfl,HO.out.1,HO.out.2⟩
 obtain rfl:n=0:=by omega
 go_enter Tryz.func113,Tryz.ntmps113
 go_wp2_with fail
 go_ret
 exact⟨_,rfl,OT.nil _ _,Below.refl _ _⟩
theorem concat_two (b o c:Nat) (v1 v2:Value) (l1 l2:List Clip) (w:World) (c1:w.cell? ⟨b,o,none⟩=some v1) (c2:w.cell? ⟨b,o+1,none⟩=some v2) (h1:Tk w v1 l1) (h2:Tk w v2 l2) (hc:2≤c) (hl:l1.length+l2.length≤1048576) :
  Calls Tryz.prog 73 #[.slice (some ⟨b,o,none⟩) 2 c] w (OTPost w (l1++l2)):=by
 have HT1:=Hd h1
 have HT2:=Hd h2
 obtain⟨a1,k1,rfl,_⟩:=h1
 obtain⟨a2,k2,rfl,_⟩:=h2
 have HG:=Hd (fun w=>grow_nil (l1.length+l2.length) w hl)
 rw[Int.natCast_add]at HG
 obtain⟨n1,e1⟩:=Xq (l1.length)
 obtain⟨n2,e2⟩:=Xq (l2.length)
 rw[← e1,← e2]at hl HG
 rw[← e1]at c1 HT1
 rw[← e2]at c2 HT2
 have HL:=Hd (And.intro e1 e2)
 have HC:=Hd (And.intro c1 c2)
 clear e1 e2
 go_enter Tryz.func73,Tryz.ntmps73
 go_wp2_with fail
 go_loop [3,11] (fun v3 v11=>(v11=.int .i64 0∧v3=.int .i64 0)∨(v11=.int .i64 1∧v3=.int .i64 (n1:Int))∨(v11=.int .i64 2∧v3=.int .i64 ((n1:Int)+(n2:Int)))) (fun _ i=>2-(intOf i).toNat)
 case atStart=>exact .inl ⟨rfl,rfl⟩
 case round=>
  have hs:(n1:Int)+(n2:Int)≤1048576:=by omega
  have hs1:(n1:Int)≤1048576:=by omega
  rcases hrel with⟨rfl,rfl⟩ |⟨rfl,rfl⟩ |⟨rfl,rfl⟩
  ·go_wp2_with fail
   exact⟨.inr (.inl ⟨rfl,by simp⟩),by simp[intOf]⟩
  ·go_wp2_with fail
   exact⟨.inr (.inr ⟨rfl,rfl⟩),by simp[intOf]⟩
  go_wp2_with fail
  refine(HG.out _).mono ?_
  rintro e w1 ⟨v',rfl,ho,hb⟩
  have HO:=Hd ho
  have HB:=Hd hb
  clear c1 c2 ho hb
  go_wp2_with fail
  go_loopw [6,27] (fun v6 v27 wr=>((v27=.int .i64 0∧OT wr w.heap.size v6 [])∨(v27=.int .i64 1∧OT wr w.heap.size v6 l1)∨(v27=.int .i64 2∧OT wr w.heap.size v6 (l1++l2)))∧Below w.heap.size w wr∧w.heap.size≤wr.heap.size) (fun _ i _=>2-(intOf i).toNat)
  case atStart=>exact⟨.inl ⟨rfl,HO.out⟩,HB.out,HB.out.size⟩
  case round=>
   clear HO HB
   obtain⟨hrel,hb,hsz⟩:=hrel
   rcases hrel with⟨rfl,ho⟩ |⟨rfl,ho⟩ |⟨rfl,ho⟩
   ·replace HT1:=Hd (HT1.out.below hb)
    have d1:=(hb.cell (block_lt_of_cell HC.out.1)).trans HC.out.1
    have HO:=Hd ho
    have HB:=Hd hb
    have HS:=Hd hsz
    clear ho hb hsz
    go_upto_region 13 with fail
    apply wp_region_lit
    iterate 6 go_step
    refine wpList_appM _ 23 23 Tryz.underlying23 Tryz.underlying23 rfl (.tmp 31) (.tmp 32) rfl w.heap.size u6 _ [] l1 rfl rfl HO.out HS.out HT1.out (by have:=HL.out;simp only[List.length_nil];omega) ?_
    intro v9 w9 q1 q2 q3 q4
    simp only[Act.put,sA1,sB1,sC1]
    have HQ:=Hd q1
    have HB9:=Hd (HB.out.trans q2)
    have HS9:=Hd (Nat.le_trans HS.out q4)
    clear q1 q2 q3 q4
    go_wp2_with fail
    exact⟨⟨.inr (.inl ⟨rfl,HQ.out⟩),HB9.out,HS9.out⟩,by simp[intOf]⟩
   ·replace HT2:=Hd (HT2.out.below hb)
    have d2:=(hb.cell (block_lt_of_cell HC.out.2)).trans HC.out.2
    have HO:=Hd ho
    have HB:=Hd hb
    have HS:=Hd hsz
    clear ho hb hsz
    go_upto_region 13 with fail
    apply wp_region_lit
    iterate 6 go_step
    refine wpList_appM _ 23 23 Tryz.underlying23 Tryz.underlying23 rfl (.tmp 31) (.tmp 32) rfl w.heap.size u6 _ l1 l2 rfl rfl HO.out HS.out HT2.out (by have:=HL.out;omega) ?_
    intro v9 w9 q1 q2 q3 q4
    simp only[Act.put,sA1,sB1,sC1]
    have HQ:=Hd q1
    have HB9:=Hd (HB.out.trans q2)
    have HS9:=Hd (Nat.le_trans HS.out q4)
    clear q1 q2 q3 q4
    go_wp2_with fail
    exact⟨⟨.inr (.inr ⟨rfl,HQ.out⟩),HB9.out,HS9.out⟩,by simp[intOf]⟩
   have HO:=Hd ho
   have HB:=Hd hb
   clear ho hb
   go_wp2_with fail
   go_ret
   exact⟨_,rfl,HO.out,HB.out⟩
theorem clonel_any (v:Value) (l:List Clip) (w:World) (h:Tk w v l) (hl:l.length≤1048576):Calls Tryz.prog 90 #[v] w (OTPost w l):=by
 have HT:=Hd h
 obtain⟨ao,cap,rfl,h1,h2,h3⟩:=h
 have hnil:=fun w=>Go.run_eql_slice_nil (P:=Tryz.prog) w 23 48 ao l.length cap Tryz.underlying23
 cases ao with
 | none =>
  have e:l=[]:=by
   cases l with
   |nil=>rfl
   |cons c l=>obtain⟨b,o,e,_⟩:=h3 0 c rfl;cases e
  clear h3
  subst e
  simp only[List.length_nil,Option.isNone_none]at hnil HT ⊢
  go_enter Tryz.func90,Tryz.ntmps90
  go_wp2_with fail
  go_ret
  exact⟨_,rfl,OT.nil _ _,Below.refl _ _⟩
 |some a=>
  clear h3
  simp only[Option.isNone_some]at hnil
  go_enter Tryz.func90,Tryz.ntmps90
  go_upto_region 3 with fail
  apply wp_region_lit
  iterate 3 go_step
  have hb:=below_box w (.cells #[] 48)
  have hbo:OT (w.alloc (.cells #[] 48)) w.heap.size (.slice (some ⟨w.heap.size,0,none⟩) 0 0) []:=OT.room _ _ _ _ _ (Nat.le_refl _) (MapKept.heap_alloc w _).1 (by simp) (by unfold maxLen;omega)
  obtain⟨w1,hw1⟩:=Xq (w.alloc (.cells #[] 48))
  rw[← hw1]at hb hbo ⊢
  replace HT:=Hd (HT.out.below hb)
  have HO:=Hd hbo
  have HB:=Hd hb
  clear hb hbo hw1 hnil
  iterate 3 go_step
  refine wpList_appM _ 23 23 Tryz.underlying23 Tryz.underlying23 rfl (.tmp 5) (.tmp 6) rfl w.heap.size (.slice (some ⟨w.heap.size,0,none⟩) 0 0) _ [] l rfl rfl HO.out HB.out.size HT.out (by simpa using hl) ?_
  intro v9 w9 q1 q2 q3 q4
  simp only[Act.put,sA1,sB1,sC1]
  have HQ:=Hd (And.intro q1 (HB.out.trans q2))
  clear q1 q2 q3 q4
  go_wp2_with fail
  go_ret
  exact⟨_,rfl,HQ.out.1,HQ.out.2⟩
theorem rest_any {L:Int} (v:Value) (l:List Clip) (a:Int) (w:World) (h:Tk w v l) (hV:VT L l) (hL:L≤140737488355328) (a0:0≤a) (a1:a≤2147483647) (hlen:(cut l a (Trk.total l)).length≤64) :
  Calls Tryz.prog 123 #[v,.int .i64 a] w fun e w'=>∃ v',e=.returned (.tuple #[v',.int .i64 0])∧OT w' w.heap.size v' (if a<Trk.total l then cut l a (Trk.total l) else[])∧Below w.heap.size w w':=by
 have HT:=Hd h
 have H1:=Hd (fun w (h:Tk w v l)=>etotal_any v l w h hV.v.good (by have:=hV.t;omega) (by have:=hV.n;omega))
 have H2:=Hd (fun w (h:Tk w v l) (hlt:a<Trk.total l)=>cut_any v l a (Trk.total l) w h hV hL a0 (by omega) hV.t hlen)
 unfold CutPost at H2
 obtain⟨T,hT⟩:=Xq (Trk.total l)
 rw[← hT]at H1 H2 ⊢
 clear h hV hT hlen
 by_cases hlt:a<T
 ·rw[if_pos hlt]
  go_enter Tryz.func123,Tryz.ntmps123
  go_wp2_with fail
  refine(H1.out _ HT.out).mono ?_
  rintro e w1 ⟨rfl,hb⟩
  have HB:=Hd hb
  clear hb
  go_wp2_with fail
  refine(H2.out _ (HT.out.below HB.out) hlt).mono ?_
  rintro e w2 ⟨v',rfl,ho,hb⟩
  replace HB':=Tb HB hb
  have HO:=Hd (ho.lower HB.out.size)
  clear ho hb
  go_wp2_with fail
  go_ret2
  exact⟨_,rfl,HO.out,HB'.out⟩
 rw[if_neg hlt]
 go_enter Tryz.func123,Tryz.ntmps123
 go_wp2_with fail
 refine(H1.out _ HT.out).mono ?_
 rintro e w1 ⟨rfl,hb⟩
 have HB:=Hd hb
 clear hb
 go_wp2_with fail
 go_ret2
 exact⟨_,rfl,OT.nil _ _,HB.out⟩
theorem RowX.setCell {w:World} {B k s g cap:Nat} {E:TypeId} {xs:List Value} (h:RowX w B E s (.slice (some ⟨g,0,none⟩) k cap) k xs) {o:Nat} (ho:o<xs.length) (u:Value) :
  RowX (w.setCell ⟨g,o,none⟩ u) B E s (.slice (some ⟨g,0,none⟩) k cap) k (xs.set o u):=by
 rcases h with⟨e,_⟩ |⟨g',cap',cur,e,hB,hg,hk,hc,hs,ht,hl⟩
 ·simp at e
 simp only[Value.slice.injEq,Option.some.injEq,Addr.mk.injEq,and_true,true_and]at e
 obtain⟨rfl,rfl⟩:=e
 have hh:(w.setCell ⟨g,o,none⟩ u).heap[g]?=some (.cells (cur.setIfInBounds o u) E (0,0)):=by
  simp[World.setCell,Array.getElem?_modify,hg]
 refine Or.inr ⟨g,cap,_,rfl,hB,hh,hk,hc,by simpa using hs,?_,by simpa using hl⟩
 rw[Array.toList_setIfInBounds,List.take_set,ht]
theorem RowX.setCells {B k s g cap:Nat} {E:TypeId}:∀ (vs:List Value) {w:World} {xs:List Value} {o:Nat},RowX w B E s (.slice (some ⟨g,0,none⟩) k cap) k xs→o+vs.length≤xs.length →
  RowX (w.setCells g o vs) B E s (.slice (some ⟨g,0,none⟩) k cap) k (xs.take o++vs++xs.drop (o+vs.length))
 |[],w,xs,o,h,ho=>by
  simp only[World.setCells,List.append_nil,List.length_nil,Nat.add_zero,List.take_append_drop]
  exact h
 | v :: vs, w, xs, o, h, ho => by
  simp only[List.length_cons]at ho
  have h1:=h.setCell (o:=o) (by omega) v
  have h2:=RowX.setCells vs (o:=o+1) h1 (by simp;omega)
  rw[World.setCells]
  have e:(xs.set o v).take (o+1)++vs++(xs.set o v).drop (o+1+vs.length)=xs.take o++v::vs++xs.drop (o+(v::vs).length):=by
   have e1:(xs.set o v).take (o+1)=xs.take o++[v]:=by
    rw[List.take_set,List.take_add_one,List.getElem?_eq_getElem (by omega),List.set_append_right _ _ (by simp;omega)]
    simp[Nat.min_eq_left (show o≤xs.length by omega)]
   have e2:(xs.set o v).drop (o+1+vs.length)=xs.drop (o+(v::vs).length):=by
    rw[List.drop_set,if_pos (by omega),List.length_cons]
    congr 1
    omega
   rw[e1,e2]
   simp
  rw[← e]
  exact h2
theorem OT.setLast {w:World} {B g cap k:Nat} {q:List Clip} {p:Clip} (h:OT w B (.slice (some ⟨g,0,none⟩) k cap) (q++[p])) (e:Clip) :
  OT (w.setCells g (q.length*22) (clipC e)) B (.slice (some ⟨g,0,none⟩) k cap) (q++[e]):=by
 have hk:=h.own.2.2.1
 subst hk
 unfold OT at h ⊢
 have hl:(q++[e]).length=(q++[p]).length:=by simp
 have h2:=RowX.setCells (clipC e) (o:=q.length*22) h (by rw[cells_length,clipC_length];simp;omega)
 have hx:(cells (q++[p])).take (q.length*22)++clipC e++(cells (q++[p])).drop (q.length*22+(clipC e).length)=cells (q++[e]):=by
  rw[cells_append,cells_append,cells_one,cells_one,List.take_append_of_le_length (by rw[cells_length];exact Nat.le_refl _),List.take_of_length_le (by rw[cells_length];exact Nat.le_refl _),
   List.drop_eq_nil_of_le (by rw[List.length_append,cells_length,clipC_length,clipC_length];exact Nat.le_refl _),List.append_nil]
 rw[hx]at h2
 rw[hl]
 exact h2
theorem OT.there {w:World} {B g cap k:Nat} {l:List Clip} (h:OT w B (.slice (some ⟨g,0,none⟩) k cap) l) {i:Nat} (hi:i<l.length):w.there g (i*22) 22:=fun j hj=>by
 obtain⟨c,hc⟩:∃ c,l[i]?=some c:=⟨_,List.getElem?_eq_getElem hi⟩
 have hA:=h.own.2.2.2 i c hc
 have hj':j<(clipC c).length:=hj
 exact⟨by rw[hA.get j _ (List.getElem?_eq_getElem hj')];rfl,h.frozen _⟩
theorem wpl_storeLast {ops:Array Oper} {rest:List Oper} {op:Oper} {a:Act} {w:World} {Q:Exit→Act→World→Prop} {B g cap k:Nat} {q:List Clip} {p:Clip} (e:Clip) {x y:Operand}
  (h:OT w B (.slice (some ⟨g,0,none⟩) k cap) (q++[p])) (hgd:op.guard=none) (ho:op.op=.store 48 x y)
  (hx:a.eval x=.pointer (some ⟨g,q.length*22,none⟩)) (hy:a.eval y=.agg (clipC e).toArray)
  (hK:∀ w',OT w' B (.slice (some ⟨g,0,none⟩) k cap) (q++[e])→(∀ b2 c2,b2≠g→CV w b2 c2→CV w' b2 c2)→(∀ n w0,n≤g→Below n w0 w→Below n w0 w')→wpList Tryz.prog ops Q rest (a.put op.dst undef) w'):wpList Tryz.prog ops Q (op::rest) a w:=
 wpList_store_mid hgd 48 x y ho g (q.length*22) (clipC e).toArray hx hy (h.there (by simp)) (by kernel_rfl) (clip_oneCell e)
  (hK _ (h.setLast e) (fun b2 c2 hne h2=>h2.apart hne _ _) (fun n w0 hn hb=>below_setCells g hn _ _ _ hb))
theorem built_two (p c:Clip):Tryz.prog.builtSlice 48 2 [(0,.agg (clipC p).toArray),(1,.agg (clipC c).toArray)]=some (cells [p,c]).toArray:=by kernel_rfl
theorem OT.of (w:World) (l:List Clip) (hl:l.length≤1048576):OT (w.alloc (.cells (cells l).toArray 48)) w.heap.size (.slice (some ⟨w.heap.size,0,none⟩) l.length l.length) l:=by
 have hh:=(MapKept.heap_alloc w (.cells (cells l).toArray 48)).1
 refine Or.inr ⟨w.heap.size,l.length,_,rfl,Nat.le_refl _,hh,Nat.le_refl _,by unfold maxLen;omega,by simp[cells_length],?_,cells_length l⟩
 exact List.take_of_length_le (by simp[cells_length])
theorem pk_two (p c:Clip):pk [p,c]=if cont c p then[withLen p (p.len+c.len)] else[p,c]:=by
 show snoc (snoc [] p) c=_
 unfold snoc
 simp
theorem enormal_any {L:Int} (v:Value) (l:List Clip) (w:World) (h:Tk w v l) (hV:VL L l) (hL:L≤140737488355328) (ht:Trk.total l≤2147483647) (hl:l.length≤1048576) :
  Calls Tryz.prog 87 #[v] w (OTPost w (nf l)):=by
 obtain⟨ao,cap,rfl,hc1,hc2,hT⟩:=h
 have HT:=Hd (show Tk w (.slice ao l.length cap) l from⟨ao,cap,rfl,hc1,hc2,hT⟩)
 clear hT
 have HG:=Hd hV
 have HTT:=Hd ht
 unfold nf
 obtain⟨N,hN⟩:=Xq (l.length)
 rw[← hN]at hl hc1
 have HLe:=Hd hN
 rw[← hN]
 clear hV hN hc2 ht
 go_enter Tryz.func87,Tryz.ntmps87
 go_wp2_with fail
 go_loopw [3,11] (fun v3 v11 wr=>∃ k:Nat,k≤N∧v11=.int .i64 (k:Int)∧OT wr w.heap.size v3 (pk (l.take k))∧Below w.heap.size w wr) (fun _ i _=>N-(intOf i).toNat)
 case atStart=>exact⟨0,Nat.zero_le _,rfl,by rw[List.take_zero];exact OT.nil _ _,Below.refl _ _⟩
 case round =>
  obtain⟨k,hk,rfl,ho,hb⟩:=hrel
  have hvk:VL L (l.take k):=HG.out.sub fun x hx=>List.mem_of_mem_take hx
  have htk:=total_take l HG.out.good k
  have hvp:=pk_vl hvk (by have:=HTT.out;omega)
  have hpo:=pk_of hvk.good
  have hpl:(pk (l.take k)).length≤1048576:=by
   have:=hpo.n
   simp only[List.length_take]at this
   omega
  by_cases hlt:k<N
  ·have hlt':(k:Int)<(N:Int):=by omega
   have hkl:k<l.length:=by rw[← HLe.out];exact hlt
   obtain⟨c,hc⟩:∃ c,l[k]?=some c:=⟨_,List.getElem?_eq_getElem hkl⟩
   obtain⟨ao',cap',e,_,_,hT⟩:=HT.out.below hb
   simp only[Value.slice.injEq,true_and]at e
   obtain⟨rfl,rfl⟩:=e
   obtain⟨b,o,rfl,hA⟩:=hT k c hc
   clear hT
   have hvc:=HG.out c (List.mem_of_getElem? hc)
   have htc:Trk.total (pk (l.take k))+c.len≤2147483647:=by
    have h1:=hpo.s.t
    have h2:=total_take l HG.out.good (k+1)
    rw[List.take_add_one,hc]at h2
    simp only[Option.toList_some]at h2
    rw[total_append]at h2
    have h3:Trk.total [c]=c.len:=by show c.len+0=_;omega
    have:=HTT.out
    omega
   have hsn:pk (l.take (k+1))=snoc (pk (l.take k)) c:=by
    rw[List.take_add_one,hc]
    show pk (l.take k++[c])=_
    rw[pk_snoc]
   have HSN:=Hd hsn
   have HA:=Hd hA
   have HO:=Hd ho
   have HB:=Hd hb
   have HC:=Hd hc
   have HVC:=Hd hvc
   have HTC:=Hd htc
   have HVP:=Hd hvp
   obtain⟨P,hP⟩:=Xq (pk (l.take k))
   rw[← hP]at HSN HO HTC HVP hpl
   clear hA ho hb hc hkl hvc htc hsn hvk htk hvp hpo hP
   go_upto_region 4 with fail
   apply wp_region_lit
   iterate 3 go_step
   refine wpl_load HA.out rfl rfl rfl ?_
   refine wpl_alloc rfl rfl (fun w2 hg hb2 hs2=>?_)
   obtain⟨g,hgg⟩:=Xq (wr.heap.size)
   rw[← hgg]at hg ⊢
   have hgn:w.heap.size≤g:=by rw[hgg];exact HB.out.size
   have hno2:∀ g2 cp x,u3=.slice (some ⟨g2,0,none⟩) x cp→g2<g:=fun g2 cp x e=>by
    have h:=HO.out
    rw[e]at h
    have:=h.own.2.1
    omega
   have HNO:=Hd hno2
   have HBX:=Hd (And.intro hb2 hgg)
   clear hb2 hs2 hgg hno2 HA
   refine wpl_store c hg rfl rfl rfl rfl ?_
   intro w3 hv ho3 hb3
   have hbw:Below wr.heap.size wr w3:=hb3 _ _ (Nat.le_of_eq HBX.out.2.symm) HBX.out.1
   replace HO:=Hd (HO.out.below hbw)
   replace HB:=Hd (HB.out.trans (hbw.mono HB.out.size))
   have HT3:=Hd (HT.out.below HB.out)
   have HV:=Hd hv
   clear hv ho3 hb3 hbw hg HBX
   simp only[Act.put,sA1,sB1,sC1]
   obtain⟨C,hC⟩:=Xq ((clipC c).toArray)
   rw[← hC]
   have HCC:=Hd hC
   clear hC
   cases hp:P.getLast? with
   | none =>
    have e0:P=[]:=List.getLast?_eq_none_iff.1 hp
    subst e0
    clear hp
    obtain⟨rfl,_⟩ |⟨g2,cp,rfl⟩:=HO.out.shape
    ·have z21:=HV.out.c.k21
     have zf:=HV.out.f
     simp only[Nat.zero_add]at z21
     go_upto_region 11 with(go_at_call 91;refine(clone_nil _).mono ?_;rintro e w' ⟨rfl,rfl⟩)
     replace HO:=Hd (HO.out.apart (p:=⟨g,21,none⟩) (fun g' k' cap' e=>Nat.ne_of_gt (HNO.out g' cap' k' e)) (.slice none 0 0))
     replace HB:=Hd (HB.out.setCell (p:=⟨g,21,none⟩) hgn (.slice none 0 0))
     replace HV:=Hd HV.out.set_nil
     clear z21 zf
     obtain⟨w8,hw8⟩:=Xq (w3.setCell ⟨g,21,none⟩ (.slice none 0 0))
     rw[← hw8]at HO HB HV ⊢
     clear hw8
     apply wp_region_lit
     iterate 3 go_step
     refine wpl_load HV.out.c rfl rfl rfl ?_
     rw[← HCC.out]
     simp only[Act.put,sA1,sB1,sC1]
     refine Great.wpList_buildSliceTo rfl 23 48 1 #[(0,.tmp 42)] rfl w8.heap.size rfl _ rfl Tryz.underlying23 C ?_ ?_
     ·simp only[List.map_toArray,List.map_cons,List.map_nil,List.toList_toArray]
      rw[HCC.out]
      exact built_clip c
     have hb:Below w8.heap.size w8 (w8.alloc (.cells C 48)):=below_box _ _
     have hbx:CA (w8.alloc (.cells C 48)) w8.heap.size 0 c:=by rw[HCC.out];exact CA.box w8 c 48
     replace HO:=Hd (HO.out.below hb)
     replace HB:=Tb HB hb
     clear hb
     simp only[Act.put,sA1,sB1,sC1]
     refine wpList_appT 23 Tryz.underlying23 _ rfl (.tmp 41) (.tmp 43) rfl rfl w.heap.size (.slice none 0 0) [] rfl HO.out HB.out.size w8.heap.size 1 c rfl hbx (by first |(simp;done) |(have:=HN.out;simp;omega)) ?_
     intro v' w9 r1 r2 r3 r4
     simp only[Act.put,sA1,sB1,sC1]
     have HR:=Hd (show OT w9 w.heap.size v' (pk (l.take (k+1))) by rw[HSN.out];show OT w9 _ _ [c];exact r1)
     have HB9:=Hd (HB.out.trans r2)
     clear r1 r2 r3 r4 hbx
     go_wp2_with fail
     go_roundw
     case rel=>exact⟨k+1,by omega,by simp,HR.out,HB9.out⟩
     case measure=>
      show N-(intOf (.int .i64 ((k:Int)+1))).toNat<N-(intOf (.int .i64 (k:Int))).toNat
      simp[intOf]
      omega
    simp only[List.length_nil]at HO HNO ⊢
    have z21:=HV.out.c.k21
    have zf:=HV.out.f
    simp only[Nat.zero_add]at z21
    go_upto_region 11 with(go_at_call 91;refine(clone_nil _).mono ?_;rintro e w' ⟨rfl,rfl⟩)
    replace HO:=Hd (HO.out.apart (p:=⟨g,21,none⟩) (fun g' k' cap' e=>Nat.ne_of_gt (HNO.out g' cap' k' e)) (.slice none 0 0))
    replace HB:=Hd (HB.out.setCell (p:=⟨g,21,none⟩) hgn (.slice none 0 0))
    replace HV:=Hd HV.out.set_nil
    clear z21 zf
    obtain⟨w8,hw8⟩:=Xq (w3.setCell ⟨g,21,none⟩ (.slice none 0 0))
    rw[← hw8]at HO HB HV ⊢
    clear hw8
    apply wp_region_lit
    iterate 3 go_step
    refine wpl_load HV.out.c rfl rfl rfl ?_
    rw[← HCC.out]
    simp only[Act.put,sA1,sB1,sC1]
    refine Great.wpList_buildSliceTo rfl 23 48 1 #[(0,.tmp 42)] rfl w8.heap.size rfl _ rfl Tryz.underlying23 C ?_ ?_
    ·simp only[List.map_toArray,List.map_cons,List.map_nil,List.toList_toArray]
     rw[HCC.out]
     exact built_clip c
    have hb:Below w8.heap.size w8 (w8.alloc (.cells C 48)):=below_box _ _
    have hbx:CA (w8.alloc (.cells C 48)) w8.heap.size 0 c:=by rw[HCC.out];exact CA.box w8 c 48
    replace HO:=Hd (HO.out.below hb)
    replace HB:=Tb HB hb
    clear hb
    simp only[Act.put,sA1,sB1,sC1]
    refine wpList_appT 23 Tryz.underlying23 _ rfl (.tmp 41) (.tmp 43) rfl rfl w.heap.size (.slice (some ⟨g2,0,none⟩) 0 cp) [] rfl HO.out HB.out.size w8.heap.size 1 c rfl hbx (by first |(simp;done) |(have:=HN.out;simp;omega)) ?_
    intro v' w9 r1 r2 r3 r4
    simp only[Act.put,sA1,sB1,sC1]
    have HR:=Hd (show OT w9 w.heap.size v' (pk (l.take (k+1))) by rw[HSN.out];show OT w9 _ _ [c];exact r1)
    have HB9:=Hd (HB.out.trans r2)
    clear r1 r2 r3 r4 hbx
    go_wp2_with fail
    go_roundw
    case rel=>exact⟨k+1,by omega,by simp,HR.out,HB9.out⟩
    case measure=>
     show N-(intOf (.int .i64 ((k:Int)+1))).toNat<N-(intOf (.int .i64 (k:Int))).toNat
     simp[intOf]
     omega
   | some p =>
    have hq:=getLast_split hp
    obtain⟨q,hq2⟩:=Xq (P.dropLast)
    rw[← hq2]at hq
    clear hp hq2
    subst hq
    obtain⟨_,e0⟩ |⟨g2,cp,rfl⟩:=HO.out.shape
    ·simp at e0
    have hng:g2≠g:=Nat.ne_of_lt (HNO.out g2 cp _ rfl)
    have hlen:(q++[p]).length=q.length+1:=by simp
    have hvp:=HVP.out p (by simp)
    have hpt:p.len+c.len≤2147483647:=by
     have h1:=HTC.out
     rw[total_append]at h1
     have h2:=total_nonneg (l:=q) (fun x hx=>(HVP.out x (List.mem_append_left _ hx)).good)
     have h3:Trk.total [p]=p.len:=by show p.len+0=_;omega
     omega
    have HVT:=Hd (show VT L [p,c] from⟨VL.cons hvp (VL.cons HVC.out VL.nil),by simp,by show p.len+(c.len+0)≤_;omega⟩)
    rw[hlen]at HO hpl HNO ⊢
    obtain⟨hB2,_,_,hcs⟩:=HO.out.own
    have HCP:=Hd (hcs q.length p (by simp))
    obtain⟨n,hn⟩:=Xq (q.length)
    rw[← hn]at HO HCP hpl HNO ⊢
    have hcp:n+1≤cp:=by
     obtain⟨ao,c',e,h1,h2,_⟩:=HO.out.tk
     simp only[Value.slice.injEq]at e
     rw[hlen,← hn]at h1
     omega
    have HN:=Hd hn
    have HP2:=Hd (pk_two p c)
    clear hcs hn hlen hvp hpt
    go_upto_region 7 with fail
    refine Plan.wp_region_plan (fun w'=>CV w' g c∧CA w' g2 (n*22) p) (([0,1,2,3,4,5].map (·,true))++(([6,7].map (·,false))++([8].map (·,true)))) (by kernel_rfl) (by kernel_rfl) (by kernel_rfl) ⟨HV.out.below (Below.refl _ _).drew,HCP.out.below (Below.refl _ _).drew⟩ ?_
    refine' Plan.plan_seg _ [0,1,2,3,4,5] (([6,7].map (·,false))++([8].map (·,true))) (by kernel_rfl) (by kernel_rfl) rfl (by exact⟨HV.out.below (Below.refl _ _).drew,HCP.out.below (Below.refl _ _).drew⟩) (fun wx hS=>?_) ?_
    rotate_left
    ·obtain⟨S1,S2⟩:=hS
     have HS1:=Hd S1
     have HS2:=Hd S2
     clear S1 S2
     go_light
     iterate 4 (apply Plan.seg_pick;rfl;intro K hK;go_wp)
     (apply Plan.seg_pick;rfl;intro K hK)
     refine wpl_load HS2.out rfl rfl rfl ?_
     go_wp
     (apply Plan.seg_pick;rfl;intro K hK)
     refine wpl_load HS1.out.c rfl rfl rfl ?_
     rw[← HCC.out]
     go_wp
     exact Plan.seg_nil
    obtain⟨w4,hw4⟩:=Xq (w3.drew)
    rw[← hw4]
    have hb:Below w3.heap.size w3 w4:=by rw[hw4];exact(Below.refl _ _).drew
    replace HV:=Hd (HV.out.below hb)
    replace HCP:=Hd (HCP.out.below hb)
    replace HO:=Hd (HO.out.below hb)
    replace HB:=Tb HB hb
    clear hb hw4
    simp only[Act.put,sA1,sB1,sC1]
    refine Plan.plan_of_effect rfl (fun K hK=>?_)
    refine Great.wpList_buildSliceTo rfl 23 48 2 #[(0,.tmp 23),(1,.tmp 24)] rfl w4.heap.size rfl (some 25) rfl Tryz.underlying23 (cells [p,c]).toArray ?_ ?_
    ·simp only[List.map_toArray,List.map_cons,List.map_nil,List.toList_toArray]
     rw[HCC.out]
     exact built_two p c
    have hb:=below_box w4 (.cells (cells [p,c]).toArray 48)
    have HTJ:=Hd (OT.of w4 [p,c] (by simp)).tk
    obtain⟨w5,hw5⟩:=Xq (w4.alloc (.cells (cells [p,c]).toArray 48))
    rw[← hw5]at hb HTJ ⊢
    replace HV:=Hd (HV.out.below hb)
    replace HCP:=Hd (HCP.out.below hb)
    replace HO:=Hd (HO.out.below hb)
    replace HB:=Tb HB hb
    obtain⟨h4,hh4⟩:=Xq (w4.heap.size)
    rw[← hh4]at HTJ ⊢
    clear hb hw5 hh4
    simp only[Act.put,sA1,sB1,sC1,List.length_cons,List.length_nil,Nat.zero_add,Nat.reduceAdd]at HTJ ⊢
    go_wp2_with fail
    refine⟨⟨HV.out,HCP.out⟩,?_⟩
    refine Plan.plan_of_effect rfl (fun K hK=>?_)
    go_wp2_with fail
    refine(packs_any _ [p,c] _ HTJ.out HVT.out hL).mono ?_
    rintro e w6 ⟨vj,rfl,hoj,hb⟩
    replace HV:=Hd (HV.out.below hb)
    replace HCP:=Hd (HCP.out.below hb)
    replace HO:=Hd (HO.out.below hb)
    replace HB:=Tb HB hb
    have HJ:=Hd hoj
    clear hb hoj HTJ
    go_wp2_with fail
    refine⟨⟨HV.out,HCP.out⟩,?_⟩
    refine' Plan.plan_seg _ [8] [] (by kernel_rfl) (by kernel_rfl) rfl (by exact⟨HV.out,HCP.out⟩) (fun wx hS=>?_) ?_
    rotate_left
    ·clear hS
     go_light
     iterate 1 (apply Plan.seg_pick;rfl;intro K hK;go_wp)
     exact Plan.seg_nil
    refine Plan.plan_done ?_
    by_cases hct:cont c p
    ·obtain⟨x,hx⟩:=Xq (withLen p (p.len+c.len))
     have hsn2:pk (l.take (k+1))=q++[x]:=by
      rw[HSN.out,hx]
      unfold snoc
      simp only[List.getLast?_append,List.getLast?_singleton,Option.some_or,List.dropLast_concat]
      rw[if_pos hct]
     rw[HP2.out,if_pos hct,← hx]at HJ
     have HS2:=Hd hsn2
     clear hsn2 hct hx HP2
     obtain⟨_,e0⟩ |⟨gj,cj,rfl⟩:=HJ.out.shape
     ·simp at e0
     have HJ0:=Hd (HJ.out.own.2.2.2 0 x rfl)
     have hcj:1≤cj:=by
      obtain⟨ao,c',e,h1,h2,_⟩:=HJ.out.tk
      simp only[Value.slice.injEq]at e
      simp only[List.length_cons,List.length_nil]at h1
      omega
     simp only[List.length_cons,List.length_nil,Nat.zero_add,Nat.zero_mul]at HJ HJ0 ⊢
     go_upto_region 9 with fail
     apply wp_region_lit
     iterate 15 go_step
     refine wpl_load HJ0.out rfl rfl rfl ?_
     simp only[Act.put,sA1,sB1,sC1]
     iterate 3 go_step
     refine wpl_storeLast x HO.out rfl rfl (by rw[← HN.out];rfl) rfl ?_
     intro w7 r1 r2 r3
     simp only[Act.put,sA1,sB1,sC1]
     have HR:=Hd (show OT w7 w.heap.size (.slice (some ⟨g2,0,none⟩) (n+1) cp) (pk (l.take (k+1))) by rw[HS2.out];exact r1)
     have HB9:=Hd (r3 _ _ hB2 HB.out)
     clear r1 r2 r3
     obtain⟨XC,hXC⟩:=Xq ((clipC x).toArray)
     rw[← hXC]
     clear hXC
     go_wp2_with fail
     go_roundw
     case rel=>exact⟨k+1,by omega,by simp,HR.out,HB9.out⟩
     case measure=>
      show N-(intOf (.int .i64 ((k:Int)+1))).toNat<N-(intOf (.int .i64 (k:Int))).toNat
      simp[intOf]
      omega
    have hsn2:snoc (q++[p]) c=q++[p]++[c]:=by
     unfold snoc
     simp only[List.getLast?_append,List.getLast?_singleton,Option.some_or,List.dropLast_concat]
     rw[if_neg hct]
    rw[HP2.out,if_neg hct]at HJ
    have HS2:=Hd hsn2
    clear hsn2 hct HP2
    obtain⟨_,e0⟩ |⟨gj,cj,rfl⟩:=HJ.out.shape
    ·simp at e0
    simp only[List.length_cons,List.length_nil,Nat.zero_add,Nat.reduceAdd]at HJ ⊢
    have z21:=HV.out.c.k21
    have zf:=HV.out.f
    simp only[Nat.zero_add]at z21
    go_upto_region 11 with(go_at_call 91;refine(clone_nil _).mono ?_;rintro e w' ⟨rfl,rfl⟩)
    replace HO:=Hd (HO.out.apart (p:=⟨g,21,none⟩) (fun g' k' cap' e=>Nat.ne_of_gt (HNO.out g' cap' k' e)) (.slice none 0 0))
    replace HB:=Hd (HB.out.setCell (p:=⟨g,21,none⟩) hgn (.slice none 0 0))
    replace HV:=Hd HV.out.set_nil
    clear z21 zf
    obtain⟨w8,hw8⟩:=Xq (w6.setCell ⟨g,21,none⟩ (.slice none 0 0))
    rw[← hw8]at HO HB HV ⊢
    clear hw8
    apply wp_region_lit
    iterate 3 go_step
    refine wpl_load HV.out.c rfl rfl rfl ?_
    rw[← HCC.out]
    simp only[Act.put,sA1,sB1,sC1]
    refine Great.wpList_buildSliceTo rfl 23 48 1 #[(0,.tmp 42)] rfl w8.heap.size rfl _ rfl Tryz.underlying23 C ?_ ?_
    ·simp only[List.map_toArray,List.map_cons,List.map_nil,List.toList_toArray]
     rw[HCC.out]
     exact built_clip c
    have hb:Below w8.heap.size w8 (w8.alloc (.cells C 48)):=below_box _ _
    have hbx:CA (w8.alloc (.cells C 48)) w8.heap.size 0 c:=by rw[HCC.out];exact CA.box w8 c 48
    replace HO:=Hd (HO.out.below hb)
    replace HB:=Tb HB hb
    clear hb
    simp only[Act.put,sA1,sB1,sC1]
    refine wpList_appT 23 Tryz.underlying23 _ rfl (.tmp 41) (.tmp 43) rfl rfl w.heap.size (.slice (some ⟨g2,0,none⟩) (n+1) cp) (q++[p]) rfl HO.out HB.out.size w8.heap.size 1 c rfl hbx (by first |(simp;done) |(have:=HN.out;simp;omega)) ?_
    intro v' w9 r1 r2 r3 r4
    simp only[Act.put,sA1,sB1,sC1]
    have HR:=Hd (show OT w9 w.heap.size v' (pk (l.take (k+1))) by rw[HSN.out];rw[HS2.out];exact r1)
    have HB9:=Hd (HB.out.trans r2)
    clear r1 r2 r3 r4 hbx
    go_wp2_with fail
    go_roundw
    case rel=>exact⟨k+1,by omega,by simp,HR.out,HB9.out⟩
    case measure=>
     show N-(intOf (.int .i64 ((k:Int)+1))).toNat<N-(intOf (.int .i64 (k:Int))).toNat
     simp[intOf]
     omega
  have hkl:k=N:=by omega
  have e:l.take k=l:=List.take_of_length_le (by rw[← HLe.out];omega)
  rw[e]at ho hpl
  have HO:=Hd ho
  have HB:=Hd hb
  obtain⟨P,hP⟩:=Xq (pk l)
  rw[← hP]at HO hpl
  have HPE:=Hd hP
  clear ho hb e hP hvp hpo hvk htk HT HG
  subst hkl
  obtain⟨rfl,rfl⟩ |⟨g,cq,rfl⟩:=HO.out.shape
  ·go_wp2_with fail
   go_ret
   rw[← HPE.out]
   exact⟨_,rfl,HO.out,HB.out⟩
  cases hp:P.getLast? with
  |none=>
   have e0:P=[]:=List.getLast?_eq_none_iff.1 hp
   subst e0
   clear hp
   simp only[List.length_nil]at HO ⊢
   go_wp2_with fail
   go_ret
   rw[← HPE.out]
   exact⟨_,rfl,HO.out,HB.out⟩
  | some p =>
   have hs:=getLast_split hp
   have HD:=Hd (show dropGap P=if p.kind=0 then P.dropLast else P by unfold dropGap;rw[hp])
   obtain⟨q,hq⟩:=Xq (P.dropLast)
   rw[← hq]at hs HD
   clear hp hq
   subst hs
   have hlen:(q++[p]).length=q.length+1:=by simp
   rw[hlen]at hpl HO ⊢
   obtain⟨hB2,_,_,hcs⟩:=HO.out.own
   have HCP:=Hd (hcs q.length p (by simp))
   have HDR:=Hd HO.out.drop
   obtain⟨n,hn2⟩:=Xq (q.length)
   rw[← hn2]at hpl HO HCP HDR ⊢
   have hcap:n+1≤cq:=by
    obtain⟨ao,c',e,h1,h2,_⟩:=HO.out.tk
    simp only[Value.slice.injEq]at e
    rw[hlen,← hn2]at h1
    omega
   have z1:=HCP.out.k1
   clear hlen hcs hn2 HCP
   by_cases hk0:p.kind=0
   ·have HR:=Hd (HD.out.trans (if_pos hk0))
    rw[hk0]at z1
    clear hk0 HD
    go_wp2_with fail
    go_ret
    rw[← HPE.out,HR.out]
    exact⟨_,rfl,HDR.out,HB.out⟩
   have HR:=Hd (HD.out.trans (if_neg hk0))
   clear HD
   go_wp2_with fail
   go_ret
   rw[← HPE.out,HR.out]
   exact⟨_,rfl,HO.out,HB.out⟩
def edC (k p n c d sn sd:Int) (v:Value):Array Value:=#[.int .i64 k,.int .i64 p,.int .i64 n,.int .i64 c,.int .i64 d,.int .i64 sn,.int .i64 sd,v]
def edV (k p n c d sn sd:Int) (v:Value):Value:=.agg (edC k p n c d sn sd v)
structure ED (w:World) (b:Nat) (k p n c d sn sd:Int) (v:Value):Prop where
 k0:w.cell? ⟨b,0,none⟩=some (.int .i64 k)
 k1:w.cell? ⟨b,1,none⟩=some (.int .i64 p)
 k2:w.cell? ⟨b,2,none⟩=some (.int .i64 n)
 k3:w.cell? ⟨b,3,none⟩=some (.int .i64 c)
 k4:w.cell? ⟨b,4,none⟩=some (.int .i64 d)
 k5:w.cell? ⟨b,5,none⟩=some (.int .i64 sn)
 k6:w.cell? ⟨b,6,none⟩=some (.int .i64 sd)
 k7:w.cell? ⟨b,7,none⟩=some v
 fz:∀ o,w.frozen? ⟨b,o,none⟩=false
theorem ED.lt {w:World} {b:Nat} {k p n c d sn sd:Int} {v:Value} (h:ED w b k p n c d sn sd v):b<w.heap.size:=block_lt_of_cell h.k0
theorem ED.lim {w w':World} {m b:Nat} {k p n c d sn sd:Int} {v:Value} (h:ED w b k p n c d sn sd v) (hb:Below m w w') (hm:b<m):ED w' b k p n c d sn sd v:=
 ⟨(hb.cell hm).trans h.k0,(hb.cell hm).trans h.k1,(hb.cell hm).trans h.k2,(hb.cell hm).trans h.k3,(hb.cell hm).trans h.k4,(hb.cell hm).trans h.k5,(hb.cell hm).trans h.k6,(hb.cell hm).trans h.k7,fun o=>(hb.frozen (p:=⟨b,o,none⟩) hm).trans (h.fz o)⟩
theorem ED.below {w w':World} {b:Nat} {k p n c d sn sd:Int} {v:Value} (h:ED w b k p n c d sn sd v) (hb:Below w.heap.size w w'):ED w' b k p n c d sn sd v:=h.lim hb h.lt
theorem ED.box (w:World) (k p n c d sn sd:Int) (v:Value) (hv:v.oneCell'=true) (t:TypeId):ED (w.alloc (.cells #[.int .i64 k,.int .i64 p,.int .i64 n,.int .i64 c,.int .i64 d,.int .i64 sn,.int .i64 sd,v] t)) w.heap.size k p n c d sn sd v:=by
 constructor<;>simp[go_sem]
theorem ED.same {w w':World} {b:Nat} {k p n c d sn sd:Int} {v:Value} (h:ED w b k p n c d sn sd v) (hs:w'.heap[b]?=w.heap[b]?):ED w' b k p n c d sn sd v:=
 ⟨(World.cell?_of_block (a:=⟨b,0,none⟩) hs).trans h.k0,(World.cell?_of_block (a:=⟨b,1,none⟩) hs).trans h.k1,(World.cell?_of_block (a:=⟨b,2,none⟩) hs).trans h.k2,(World.cell?_of_block (a:=⟨b,3,none⟩) hs).trans h.k3,(World.cell?_of_block (a:=⟨b,4,none⟩) hs).trans h.k4,(World.cell?_of_block (a:=⟨b,5,none⟩) hs).trans h.k5,(World.cell?_of_block (a:=⟨b,6,none⟩) hs).trans h.k6,(World.cell?_of_block (a:=⟨b,7,none⟩) hs).trans h.k7,fun o=>(World.frozen?_of_block (a:=⟨b,o,none⟩) hs).trans (h.fz o)⟩
theorem OT.blk {w:World} {B g k cap:Nat} {v:Value} {l:List Clip} (h:OT w B v l) (e:v=.slice (some ⟨g,0,none⟩) k cap):B≤g∧g<w.heap.size:=by
 subst e
 exact⟨h.own.1,h.own.2.1⟩
theorem cutRaw_np (l:List Clip) (f:Int) {n:Int} (hn:n≤0):cutRaw l f n=[]:=by
 cases l with
 |nil=>unfold cutRaw;rw[if_neg (by omega)]
 |cons c l=>unfold cutRaw;rw[if_pos hn]
def EdV (e:Ed) (u:Value):Value:=edV e.k e.p e.m e.c e.d e.sn e.sd u
def EdPost (w:World) (n l:List Clip) (a b uk:Int) (e:Ending) (w':World):Prop:=
 ∃ v' vr,e=.returned (.tuple #[v',EdV (backOf n a b uk) vr,.int .i64 0])∧OT w' w.heap.size v' l∧OT w' w.heap.size vr (backOf n a b uk).ins∧Below w.heap.size w w'
structure E2 (w:World) (g1 g2:Nat) (k p m c d sn sd:Int) (u:Value):Prop where
 a:ED w g1 k p m c d sn sd u
 r:ED w g2 0 0 0 0 0 0 0 (.slice none 0 0)
theorem E2.below {w w':World} {g1 g2:Nat} {k p m c d sn sd:Int} {u:Value} (h:E2 w g1 g2 k p m c d sn sd u) (hb:Below w.heap.size w w'):E2 w' g1 g2 k p m c d sn sd u:=⟨h.a.below hb,h.r.below hb⟩
structure UK (n ins put rl:List Clip) (k uk p T rem mm:Int):Prop where
 a:k=1→uk=2∧mm=T∧rl=[]∧put=ins
 b:k=2→uk=1∧mm=0∧rl=cut n p (p+rem)∧put=[]
 c:k=3→uk=3∧mm=0∧rl=cut n p (p+rem)∧put=ins
 d:k=4→uk=3∧mm=0∧rl=cut n p (p+rem)∧put=gapL T
theorem UK.of {n ins put rl:List Clip} {k uk p T rem mm m:Int} (huk:uk=undoK k) (hmm:mm=if uk=2 then p+T-p else 0) (hrl:rl=if uk=2 then[] else cut n p (p+T)) (hr:rem=if k=1 then 0 else T)
  (hp:put=if k=4 then[gap m] else ins) (hm:k=2∨k=4→T=m∧ins=[]) (ht:1≤T):UK n ins put rl k uk p T rem mm:=by
 unfold undoK at huk
 constructor
 ·rintro rfl
  have hu:uk=2:=huk
  subst hu
  exact⟨rfl,by rw[hmm,if_pos rfl];omega,by rw[hrl,if_pos rfl],by rw[hp,if_neg (by decide)]⟩
 ·rintro rfl
  have hu:uk=1:=huk
  subst hu
  rw[if_neg (by decide)]at hr hmm hrl hp
  exact⟨rfl,hmm,by rw[hrl,hr],by rw[hp,(hm (.inl rfl)).2]⟩
 ·rintro rfl
  have hu:uk=3:=huk
  subst hu
  rw[if_neg (by decide)]at hr hmm hrl hp
  exact⟨rfl,hmm,by rw[hrl,hr],hp⟩
 rintro rfl
 have hu:uk=3:=huk
 subst hu
 rw[if_neg (by decide)]at hr hmm hrl
 rw[if_pos rfl]at hp
 refine⟨rfl,hmm,by rw[hrl,hr],?_⟩
 rw[hp,← (hm (.inr rfl)).1]
 unfold gapL
 rw[if_pos (by omega)]
def T26 (w:World) (b:Nat):Prop:=∃ cs p,w.heap[b]?=some (.cells cs 40 p)
theorem T26.set {w:World} {b:Nat} (h:T26 w b) (p:Addr) (u:Value):T26 (w.setCell p u) b:=by
 obtain⟨cs,q,hc⟩:=h
 by_cases hb:p.block=b
 ·subst hb
  simp only[T26,World.setCell,Array.getElem?_modify,hc,if_true,Option.map_some]
  exact⟨_,_,rfl⟩
 refine⟨cs,q,?_⟩
 simp[World.setCell,Array.getElem?_modify,hb,hc]
theorem T26.same {w w':World} {b:Nat} (h:T26 w b) (hs:w'.heap[b]?=w.heap[b]?):T26 w' b:=by
 obtain⟨cs,q,hc⟩:=h
 exact⟨cs,q,hs.trans hc⟩
theorem T26.ne {w:World} {b B:Nat} {v:Value} {l:List Clip} (h:T26 w b) (ho:OT w B v l):∀ g kk cap,v=.slice (some ⟨g,0,none⟩) kk cap→b≠g:=by
 intro g kk cap e hbg
 subst hbg
 subst e
 obtain⟨cs,q,hc⟩:=h
 rcases ho with⟨e,_⟩ |⟨g',cap',cur,e,hB,hg,_⟩
 ·simp at e
 simp only[Value.slice.injEq,Option.some.injEq,Addr.mk.injEq,and_true,true_and]at e
 obtain⟨rfl,rfl,rfl⟩:=e
 rw[hc]at hg
 simp at hg
theorem ED.range {w:World} {b:Nat} {k p n c d sn sd:Int} {v:Value} (h:ED w b k p n c d sn sd v):w.rangeAt b 0 (edC k p n c d sn sd v).toList:=by
 intro j u hj
 have hl:j<8:=(List.getElem?_eq_some_iff.1 hj).1
 rcases(show j=0∨j=1∨j=2∨j=3∨j=4∨j=5∨j=6∨j=7 by omega) with rfl |rfl |rfl |rfl |rfl |rfl |rfl |rfl
 all_goals simp only[edC,List.getElem?_cons_zero,List.getElem?_cons_succ,Option.some.injEq]at hj;subst hj
 ·exact h.k0
 ·exact h.k1
 ·exact h.k2
 ·exact h.k3
 ·exact h.k4
 ·exact h.k5
 ·exact h.k6
 exact h.k7
theorem results_ed {fn:Func} {tmps:Array Value} {w:World} {s t r:Tmp} {b:Nat} {k p n c d sn sd:Int} {v x y:Value} (hr:fn.results=#[.tmp s,.cell t 40,.tmp r]) (hs:tmps.getD s undef=x) (ht:tmps.getD t undef=.pointer (some ⟨b,0,none⟩)) (hy:tmps.getD r undef=y)
  (hc:ED w b k p n c d sn sd v) (hv:(∃ ao m cp,v=.slice ao m cp)):(results fn tmps).run Tryz.prog w=.ok (.tuple #[x,edV k p n c d sn sd v,y]) w:=by
 obtain⟨ao,m,cp,rfl⟩:=hv
 have h:=run_loadVar_mid (P:=Tryz.prog) w b 0 40 (edC k p n c d sn sd (.slice ao m cp)).toList _ hc.range Tryz.underlying40 rfl (by kernel_rfl)
 obtain⟨C,hC⟩:=Xq ((edC k p n c d sn sd (.slice ao m cp)).toList.toArray)
 rw[← hC]at h
 unfold results
 rw[hr]
 have ht2:tmps[t]?.getD undef=.pointer (some ⟨b,0,none⟩):=by rw[← Array.getD_eq_getD_getElem?];exact ht
 have hs2:tmps[s]?.getD undef=x:=by rw[← Array.getD_eq_getD_getElem?];exact hs
 have hy2:tmps[r]?.getD undef=y:=by rw[← Array.getD_eq_getD_getElem?];exact hy
 simp[ht2,hs2,hy2,asAddr,h]
 rw[hC]
 rfl
theorem OT.blocks {w w':World} {B:Nat} {v:Value} {l:List Clip} (h:OT w B v l) (hs:∀ g kk cap,v=.slice (some ⟨g,0,none⟩) kk cap→w'.heap[g]?=w.heap[g]?):OT w' B v l:=by
 obtain⟨rfl,rfl⟩ |⟨g,cap,rfl⟩:=h.shape
 ·exact OT.nil _ _
 exact h.same (hs g _ _ rfl)
theorem setCells_other (b b2:Nat) (hn:b2≠b):∀ (vs:List Value) (o:Nat) (w:World),(w.setCells b o vs).heap[b2]?=w.heap[b2]?
 |[],_,_=>rfl
 |v::r,o,w=>by
  rw[World.setCells,setCells_other b b2 hn r (o+1)]
  simp[World.setCell,Array.getElem?_modify,hn.symm]
theorem size_setCells (b:Nat):∀ (vs:List Value) (o:Nat) (w:World),(w.setCells b o vs).heap.size=w.heap.size
 |[],_,_=>rfl
 |v::r,o,w=>by rw[World.setCells,size_setCells b r (o+1),World.size_setCell]
theorem T26.cells {b:Nat}:∀ (vs:List Value) (o g:Nat) (w:World),T26 w b→T26 (w.setCells g o vs) b
 |[],_,_,_,h=>h
 |v::r,o,g,w,h=>by rw[World.setCells];exact T26.cells r (o+1) g _ (h.set _ _)
theorem ED.there {w:World} {b:Nat} {k p n c d sn sd:Int} {v:Value} (h:ED w b k p n c d sn sd v):w.there b 0 8:=fun j hj=>⟨by
 have hj':j<(edC k p n c d sn sd v).toList.length:=hj
 rw[h.range j _ (List.getElem?_eq_getElem hj')];rfl,h.fz _⟩
theorem ED.ofRange {w:World} {b:Nat} {k p n c d sn sd:Int} {v:Value} (h:w.rangeAt b 0 (edC k p n c d sn sd v).toList) (hf:∀ o,w.frozen? ⟨b,o,none⟩=false):ED w b k p n c d sn sd v:=
 ⟨h 0 _ rfl,h 1 _ rfl,h 2 _ rfl,h 3 _ rfl,h 4 _ rfl,h 5 _ rfl,h 6 _ rfl,h 7 _ rfl,hf⟩
theorem wpList_appTo (w:World) {ops:Array Oper} {rest:List Oper} {op:Oper} {a:Act} {Q:Exit→Act→World→Prop} (T1 T2:TypeId) (dst:Option Tmp) (hd:op.dst=dst) (h1:Tryz.prog.underlying T1=some (.slice 48)) (h2:Tryz.prog.underlying T2=some (.slice 48)) (hg:op.guard=none) (s x:Operand)
  (hop:op.op=.call { callee:=.builtin .append,args:=#[s,x],argTypes:=#[T1,T2] }) (B:Nat) (v u:Value) (l m:List Clip) (hs:a.eval s=v) (hx:a.eval x=u) (h:OT w B v l) (hB:B≤w.heap.size) (hm:Tk w u m) (hl:l.length+m.length≤1048576)
  (hK:∀ v' w',OT w' B v' (l++m)→Below B w w'→(∀ b,b<w.heap.size→(∀ g cap,v=.slice (some ⟨g,0,none⟩) l.length cap→b≠g)→w'.heap[b]?=w.heap[b]?)→w.heap.size≤w'.heap.size→wpList Tryz.prog ops Q rest (a.put dst v') w'):wpList Tryz.prog ops Q (op::rest) a w:=by
 subst hd
 exact wpList_appM w T1 T2 h1 h2 hg s x hop B v u l m hs hx h hB hm hl hK
theorem wpl_loadE {ops:Array Oper} {rest:List Oper} {op:Oper} {a:Act} {w:World} {Q:Exit→Act→World→Prop} {b:Nat} {k p n c d sn sd:Int} {ao:Option Addr} {m cp:Nat} {x:Operand} (hE:ED w b k p n c d sn sd (.slice ao m cp)) (hgd:op.guard=none) (ho:op.op=.load 40 x)
  (hx:a.eval x=.pointer (some ⟨b,0,none⟩)) (h:wpList Tryz.prog ops Q rest (a.put op.dst (.agg (edC k p n c d sn sd (.slice ao m cp)))) w):wpList Tryz.prog ops Q (op::rest) a w:=
 wpList_load_mid hgd 40 x ho b 0 hx (edC k p n c d sn sd (.slice ao m cp)).toList _ hE.range Tryz.underlying40 rfl (by kernel_rfl) h
theorem wpl_storeE {ops:Array Oper} {rest:List Oper} {op:Oper} {a:Act} {w:World} {Q:Exit→Act→World→Prop} {b:Nat} {k p n c d sn sd:Int} {v:Value} (k' p' n' c' d' sn' sd':Int) (ao:Option Addr) (m cp:Nat) {x y:Operand}
  (hE:ED w b k p n c d sn sd v) (hgd:op.guard=none) (ho:op.op=.store 40 x y) (hx:a.eval x=.pointer (some ⟨b,0,none⟩)) (hy:a.eval y=.agg (edC k' p' n' c' d' sn' sd' (.slice ao m cp)))
  (h:∀ w',ED w' b k' p' n' c' d' sn' sd' (.slice ao m cp)→(∀ b2,b2≠b→w'.heap[b2]?=w.heap[b2]?)→w'.heap.size=w.heap.size→(∀ n w0,n≤b→Below n w0 w→Below n w0 w')→(T26 w b→T26 w' b)→wpList Tryz.prog ops Q rest (a.put op.dst undef) w'):wpList Tryz.prog ops Q (op::rest) a w:=
 wpList_store_mid hgd 40 x y ho b 0 (edC k' p' n' c' d' sn' sd' (.slice ao m cp)) hx hy hE.there (by kernel_rfl) (by simp[edC,Value.oneCell'])
  (h _ (ED.ofRange (fun j u hj => World.rangeAt_setCells_same w b 0 (edC k' p' n' c' d' sn' sd' (.slice ao m cp)).toList hE.there j u hj) (fun o => (World.frozen?_setCells b _ _ w _).trans (hE.fz o)))
   (fun b2 hn=>setCells_other b b2 hn _ _ _) (size_setCells b _ _ _) (fun n w0 hn hb=>below_setCells b hn _ _ _ hb) (fun ht=>T26.cells _ _ _ _ ht))
end Go.Proofs.YtfoohocgdcgbcaaGreat
