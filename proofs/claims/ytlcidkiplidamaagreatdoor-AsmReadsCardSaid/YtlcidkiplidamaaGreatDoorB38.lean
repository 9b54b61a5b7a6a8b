/-
  What the laws rest on, part 38: walks of the program's functions and plain laws. Conditions: none but those that each theorem names.
-/
import Derived.Test.YtlcidkiplidamaaGreatDoorB00
import Derived.Test.YtlcidkiplidamaaGreatDoorB37
import Derived.Test.YtlcidkiplidamaaGreatDoorB15
import Derived.Laws.OwnMore
set_option linter.unusedSimpArgs false
set_option linter.unusedVariables false
set_option maxRecDepth 100000
set_option maxHeartbeats 8000000
namespace Go.Proofs.YtlcidkiplidamaaGreatDoor
open Go Go.RowKit Lib Go.Maps
theorem oqb (text other:ByteArray) (mx:Int) (w:World) (ht:text.size≤9223372036854775807) (ho:other.size≤9223372036854775807) (hmx:w.cell? ⟨Tryz.maxB,0,none⟩=some (.int .i64 mx)):
  Calls Tryz.prog 3 #[.string text, .string other] w fun e w'=>e= .returned (.bool true)∧Below w.heap.size w w':=by
 have HAL:=Hq (lqX mx w hmx)
 have hxw:Tryz.maxB<w.heap.size:=World.block_lt_of_cell? _ _ hmx
 have HMX:=Hq hmx
 clear hmx
 by_cases h1:8000<text.size
 ·have h1':(8000:Int) < (text.size:Int):=by omega
  go_enter Tryz.func3,Tryz.ntmps3
  go_wp2_with (go_at_call 8;refine HAL.out.mono ?_;rintro e w1 ⟨rfl,hb1⟩)
  go_ret
  exact⟨rfl,hb1⟩
 have h1': ¬(8000:Int) < (text.size:Int):=by omega
 by_cases h2:8000<other.size
 ·have h2':(8000:Int) < (other.size:Int):=by omega
  go_enter Tryz.func3,Tryz.ntmps3
  go_wp2_with (go_at_call 8;refine HAL.out.mono ?_;rintro e w1 ⟨rfl,hb1⟩)
  go_ret
  exact⟨rfl,hb1⟩
 have h2': ¬(8000:Int) < (other.size:Int):=by omega
 obtain⟨pp,hpp⟩: ∃p,cq9 aq1 text=p:=⟨_,rfl⟩
 have hA1:=fun W (hW:Below w.heap.size w W)=>oqR text mx W ((hW.cell (p:=⟨Tryz.maxB,0,none⟩) hxw).trans HMX.out) (by omega) (fun s hs=> .inr (Nat.le_trans (eq2 hs) (by omega)))
 have hA3:=fun W=>kqh (fun c p i f m ok w h hF=>jqL c p i f m ok w h hF) text W (by omega)
 rw [hpp] at hA1 hA3
 have HA1:=Hq hA1
 have HA3:=Hq hA3
 have HA2:=Hq (fun W (hW:Below w.heap.size w W)=>fq7 other mx W ((hW.cell (p:=⟨Tryz.maxB,0,none⟩) hxw).trans HMX.out) (by omega) (fun s hs=> .inr (Nat.le_trans (eq2 hs) (by omega))))
 clear hA1 hA3 hpp h1 h2
 go_enter Tryz.func3,Tryz.ntmps3
 go_wp2_with (go_at_call 8;refine aqa ?_)
 refine aqb ?_
 refine HAL.out.mono ?_
 rintro e w1 ⟨rfl,hb1⟩
 have HB1:=Hq hb1
 clear hb1 HAL
 go_wp2_with (go_at_call 9;refine aqa ?_)
 refine aqb ?_
 refine(HA1.out w1 HB1.out).mono ?_
 rintro e w5 ⟨hb5,a11,a21,a31,a41,hc5,rfl⟩
 obtain⟨cc,hcc⟩: ∃c,lqY pp=c:=⟨_,rfl⟩
 obtain⟨er,her⟩: ∃x,oqQ pp=x:=⟨_,rfl⟩
 obtain⟨L,hL⟩: ∃x,oqP pp=x:=⟨_,rfl⟩
 have HQ:=Hq (And.intro hcc (And.intro her hL))
 rw [hcc,her,hL]
 rw [hcc] at hc5
 obtain⟨P1,p1,rfl,_,_⟩:=aqm hc5.hpool
 obtain⟨I1,i1,rfl,_,_⟩:=aqm hc5.hifs
 obtain⟨F1,f1,rfl,_,_⟩:=aqm hc5.hflds
 obtain⟨M1,m1,rfl⟩: ∃A k,a41= .slice A cc.mths.length k:=by
  obtain⟨ms,e1,s1,r1⟩:=hc5.hmths
  obtain⟨A,k,e,_,_⟩:=aqm s1
  exact⟨A,k,e⟩
 have HC5:=Hq hc5
 have HB5:=Hq (HB1.out.trans (hb5.mono HB1.out.size))
 have hz5:=HB5.out.size
 clear hc5 hb5 hcc her hL HA1
 have XZ1:=Hq (aqo w5 aqZ 28)
 go_wp2_with (refine wpList_store_row rfl _ _ _ rfl w5.heap.size (cc.cells (.slice P1 cc.pool.length p1) (.slice I1 cc.ifs.length i1) (.slice F1 cc.flds.length f1) (.slice M1 cc.mths.length m1)).toArray rfl rfl _ _ XZ1.out (by kernel_rfl) rfl (by simp [aqj.cells,Value.oneCell']) ?_;refine aqa ?_)
 refine aqb ?_
 obtain⟨w6,hw6⟩: ∃W,W=(w5.alloc (.cells #[.int .i64 0, .int .i64 0, .slice none 0 0, .int .i64 0, .int .i64 0, .int .i64 0, .slice none 0 0, .slice none 0 0, .slice none 0 0] 28)).setRow w5.heap.size (cc.cells (.slice P1 cc.pool.length p1) (.slice I1 cc.ifs.length i1) (.slice F1 cc.flds.length f1) (.slice M1 cc.mths.length m1)).toArray:=⟨_,rfl⟩
 rw [←hw6]
 have XA1:=Hq (show Bx w6 w5.heap.size (cc.cells (.slice P1 cc.pool.length p1) (.slice I1 cc.ifs.length i1) (.slice F1 cc.flds.length f1) (.slice M1 cc.mths.length m1)) 28 by rw [hw6];exact XZ1.out.row _)
 have hBw6:Below w5.heap.size w5 w6:=by rw [hw6];exact bqz ((Below.refl _ _).alloc (Nat.le_refl _) _) _ _ (Nat.le_refl _)
 clear hw6 XZ1
 have HB6:=Hq (HB5.out.trans (hBw6.mono hz5))
 have HC6:=Hq (HC5.out.keep (bqE.of_below hBw6))
 have hz6:=HB6.out.size
 clear hBw6 HC5
 go_wp2_with (go_at_call 9;refine aqa ?_)
 refine aqb ?_
 refine(HA2.out w6 HB6.out).mono ?_
 intro e w7 hq
 obtain⟨hb7,cd,d1,d2,d3,d4,Ld,ed,ww,rfl,o2,o3,hD⟩:=lq4 hq
 have HD:=Hq hD
 have HB7:=Hq (HB6.out.trans (hb7.mono hz6))
 have HS7:=Hq hb7
 have hz7:=hb7.size
 have o1:d1.oneCell'=true:=by rcases hD.pool with⟨e,_⟩ | ⟨g,k,e,_⟩ <;>rw [e] <;>rfl
 have o4:d4.oneCell'=true:=by obtain⟨_,_,_,e,_⟩:=hD.mths;rw [e];rfl
 clear hq hb7 hD HA2
 have XZ2:=Hq (aqo w7 aqZ 28)
 go_wp2_with (refine wpList_store_row rfl _ _ _ rfl w7.heap.size (cd.cells d1 d2 d3 d4).toArray rfl rfl _ _ XZ2.out (by kernel_rfl) rfl (by simp [aqj.cells,Value.oneCell'];exact⟨o1,o2,o3,o4⟩) ?_;refine aqa ?_)
 refine aqb ?_
 obtain⟨w8,hw8⟩: ∃W,W=(w7.alloc (.cells #[.int .i64 0, .int .i64 0, .slice none 0 0, .int .i64 0, .int .i64 0, .int .i64 0, .slice none 0 0, .slice none 0 0, .slice none 0 0] 28)).setRow w7.heap.size (cd.cells d1 d2 d3 d4).toArray:=⟨_,rfl⟩
 rw [←hw8]
 have XA2:=Hq (show Bx w8 w7.heap.size (cd.cells d1 d2 d3 d4) 28 by rw [hw8];exact XZ2.out.row _)
 have hBw8:Below w7.heap.size w7 w8:=by rw [hw8];exact bqz ((Below.refl _ _).alloc (Nat.le_refl _) _) _ _ (Nat.le_refl _)
 clear hw8 XZ2
 have HB8:=Hq (HS7.out.trans (hBw8.mono hz7))
 have HE8:=Hq (hBw8)
 have Z8:=Hq (Zd.refl ww w6.heap.size w8)
 have NW:=Hq (show∀g,ww g→w6.heap.size≤g∧g<w7.heap.size from HD.out.new)
 have hnd: ¬ww w7.heap.size:=fun h=>by have:=(HD.out.new _ h).2;omega
 have HND:=Hq hnd
 obtain⟨np,hnp⟩: ∃n,cd.pool.length=n:=⟨_,rfl⟩
 have hnpl:=HD.out.np
 rw [hnp] at hnpl
 have HPL:=Hq (show(d1= .slice none 0 0∧np=0)∨ ∃g k,d1= .slice (some ⟨g,0,none⟩) np k∧ww g∧Cel w8 g (np*5) from by
  rcases HD.out.pool with⟨e,h0⟩ | ⟨g,k,e,h3,c,t,h4,h5⟩
  ·exact .inl ⟨e,hnp.symm.trans h0⟩
  exact .inr ⟨g,k,by rw [←hnp];exact e,h3,c,t,(hBw8.block g (HD.out.new g h3).2).trans h4,by rw [←hnp];exact h5⟩)
 obtain⟨ms,Am,km,hd4,hml,hms⟩:=HD.out.mths
 subst hd4
 have HMS:=Hq (show∀i v,ms[i]?=some v→(∃gt,Am=some ⟨gt,0,none⟩∧ ¬ww gt∧gt<w7.heap.size∧w8.cell? ⟨gt,i*8+6,none⟩=some v)∧ ∃n,n≤1048576∧((v= .slice none 0 0∧n=0)∨ ∃g k,v= .slice (some ⟨g,0,none⟩) n k∧ww g∧Cel w8 g n) from fun i v hv=>by
  obtain⟨⟨gt,q1,q2,q3,q4⟩,n,q5,q6⟩:=hms i v hv
  refine⟨⟨gt,q1,q2,q3,(hBw8.cell (p:=⟨gt,i*8+6,none⟩) q3).trans q4⟩,n,q5, ?_⟩
  rcases q6 with q6| ⟨g,k,q6,q7,c,t,q8,q9⟩
  ·exact .inl q6
  exact .inr ⟨g,k,q6,q7,c,t,(hBw8.block g (HD.out.new g q7).2).trans q8,q9⟩)
 clear hBw8 hnd hnp HD hms
 go_wp2_with fail
 go_loopw [12] (fun i wr=> ∃k:Nat,k≤np∧i= .int .i64 k∧Hid (Zd ww w6.heap.size w8 wr)) (fun i _=>np - (RowKit.intOf i).toNat)
 case atStart=>exact⟨0,by omega,rfl,Z8⟩
 case round=>
  obtain⟨wa,hwa⟩: ∃W,W=wr:=⟨_,rfl⟩
  subst hwa
  obtain⟨k,hk,rfl,Zr⟩:=hrel
  have Xr:=Hq (show Bx wa w7.heap.size (cd.cells d1 d2 d3 (.slice Am ms.length km)) 28 from(Zr.out.keep _ HND.out).trans XA2.out)
  have n2:=Xr.out.cell 2 rfl
  have n8:=Xr.out.cell 8 rfl
  by_cases hlt:k<np
  ·rcases HPL.out with⟨_,h0⟩ | ⟨g,kp,rfl,hg,hcel⟩
   ·omega
   have hcl:=Zr.out.cel _ _ hcel
   obtain⟨u0,y0⟩:=hcl.at' (i:=k*5) (by omega)
   obtain⟨u1,y1⟩:=hcl.at' (i:=k*5+1) (by omega)
   obtain⟨u2,y2⟩:=hcl.at' (i:=k*5+2) (by omega)
   obtain⟨u3,y3⟩:=hcl.at' (i:=k*5+3) (by omega)
   obtain⟨u4,y4⟩:=hcl.at' (i:=k*5+4) (by omega)
   have z0:=hcl.free (k*5)
   have z1:=hcl.free (k*5+1)
   have z2:=hcl.free (k*5+2)
   have z3:=hcl.free (k*5+3)
   have z4:=hcl.free (k*5+4)
   have hgn:=(NW.out g hg).1
   have HG:=Hq hg
   clear hcl hcel hg
   go_wp2_with fail
   go_roundw
   case rel=>exact⟨k+1,by omega,by go_num,Hq (((((Zr.out.set HG.out hgn _ _).set HG.out hgn _ _).set HG.out hgn _ _).set HG.out hgn _ _).set HG.out hgn _ _)⟩
   case measure=>simp [RowKit.intOf];omega
  have hpl:d1= .slice none 0 0∧np=0∨ ∃A kp,d1= .slice A np kp:=by
   rcases HPL.out with h| ⟨g,kp,h,_⟩
   ·exact .inl h
   exact .inr ⟨_,_,h⟩
  obtain⟨Ap,kp,rfl⟩: ∃A kp,d1= .slice A np kp:=by
   rcases hpl with⟨h,h0⟩ |h
   ·exact⟨none,0,by rw [h,h0]⟩
   exact h
  clear hpl
  go_wp2_with fail
  clear n2 n8
  go_loopw [13] (fun i wr=> ∃k:Nat,k≤ms.length∧i= .int .i64 k∧Hid (Zd ww w6.heap.size w8 wr)) (fun i _=>ms.length - (RowKit.intOf i).toNat)
  case atStart=>exact⟨0,by omega,rfl,Zr⟩
  case round=>
   obtain⟨wb,hwb⟩: ∃W,W=wr:=⟨_,rfl⟩
   subst hwb
   obtain⟨j,hj,rfl,Zs⟩:=hrel
   have Xs:=Hq (show Bx wb w7.heap.size (cd.cells (.slice Ap np kp) d2 d3 (.slice Am ms.length km)) 28 from(Zs.out.keep _ HND.out).trans XA2.out)
   have n8:=Xs.out.cell 8 rfl
   by_cases hjl:j<ms.length
   ·obtain⟨v,hv⟩: ∃v,ms[j]?=some v:=⟨_,List.getElem?_eq_getElem hjl⟩
    obtain⟨⟨gt,rfl,hgt,hgl,hcv⟩,n,hn,hvv⟩:=HMS.out j v hv
    have HGT:=Hq hgt
    have HCV:=Hq hcv
    obtain⟨Av,kv,rfl⟩: ∃A k,v= .slice A n k:=by
     rcases hvv with⟨h,h0⟩ | ⟨g,k,h,_⟩
     ·exact⟨none,0,by rw [h,h0]⟩
     exact⟨_,_,h⟩
    have HVV:=Hq hvv
    clear hgt hcv hvv hv
    go_wp2_with fail
    clear n8
    go_loopw [14] (fun i wr=> ∃k:Nat,k≤n∧i= .int .i64 k∧Hid (Zd ww w6.heap.size w8 wr)) (fun i _=>n - (RowKit.intOf i).toNat)
    case atStart=>exact⟨0,by omega,rfl,Zs⟩
    case round=>
     obtain⟨wc,hwc⟩: ∃W,W=wr:=⟨_,rfl⟩
     subst hwc
     obtain⟨q,hq,rfl,Zt⟩:=hrel
     have Xt:=Hq (show Bx wc w7.heap.size (cd.cells (.slice Ap np kp) d2 d3 (.slice (some ⟨gt,0,none⟩) ms.length km)) 28 from(Zt.out.keep _ HND.out).trans XA2.out)
     have n8:=Xt.out.cell 8 rfl
     have cv:=(World.cell?_of_block (a:=⟨gt,j*8+6,none⟩) (w:=w8) (Zt.out.keep gt HGT.out)).trans HCV.out
     by_cases hqn:q<n
     ·rcases HVV.out with⟨_,h0⟩ | ⟨g,k,he,hg,hcel⟩
      ·omega
      injection he with e1 _ e3
      subst e1
      subst e3
      have hcl:=Zt.out.cel _ _ hcel
      obtain⟨u0,y0⟩:=hcl.at' hqn
      have z0:=hcl.free q
      have hgn:=(NW.out g hg).1
      have HG:=Hq hg
      clear hcl hcel hg
      go_wp2_with fail
      go_roundw
      case rel=>exact⟨q+1,by omega,by go_num,Hq (Zt.out.set HG.out hgn _ _)⟩
      case measure=>simp [RowKit.intOf];omega
     go_wp2_with fail
     go_roundw
     case rel=>exact⟨j+1,by omega,by go_num,Zt⟩
     case measure=>simp [RowKit.intOf];omega
   have HBb:=Hq (HB8.out.trans (Zs.out.bel))
   have HCb:=Hq (HC6.out.keep (bqE.of_below HBb.out))
   have XAb:=Hq (XA1.out.below HBb.out XA1.out.lt)
   have HWb:=Hq (HB6.out.trans (HBb.out.mono hz6))
   have hzb:=HBb.out.size
   clear XA1 HC6 HB8 Zs
   go_wp2_with (go_at_call 10;refine aqa ?_)
   refine aqb ?_
   refine(HA3.out wb).mono ?_
   rintro e w9 ⟨hb9,a12,a22,a32,a42,hc9,rfl⟩
   rw [HQ.out.1] at hc9
   rw [HQ.out.1,HQ.out.2.1,HQ.out.2.2]
   obtain⟨P2,p2,rfl,_,_⟩:=aqm hc9.hpool
   obtain⟨I2,i2,rfl,_,_⟩:=aqm hc9.hifs
   obtain⟨F2,f2,rfl,_,_⟩:=aqm hc9.hflds
   obtain⟨M2,m2,rfl⟩: ∃A k,a42= .slice A cc.mths.length k:=by
    obtain⟨ms,e1,s1,r1⟩:=hc9.hmths
    obtain⟨A,k,e,_,_⟩:=aqm s1
    exact⟨A,k,e⟩
   have HC9:=Hq hc9
   have HCc:=Hq (HCb.out.keep (bqE.of_below hb9))
   have HW9:=Hq (HWb.out.trans (hb9.mono HWb.out.size))
   have XA9:=Hq (XAb.out.below hb9 XAb.out.lt)
   have hz9:=hb9.size
   clear hc9 hb9 HCb XAb
   have XZ3:=Hq (aqo w9 aqZ 28)
   go_wp2_with (refine wpList_store_row rfl _ _ _ rfl w9.heap.size (cc.cells (.slice P2 cc.pool.length p2) (.slice I2 cc.ifs.length i2) (.slice F2 cc.flds.length f2) (.slice M2 cc.mths.length m2)).toArray rfl rfl _ _ XZ3.out (by kernel_rfl) rfl (by simp [aqj.cells,Value.oneCell']) ?_;refine aqa ?_)
   refine aqb ?_
   obtain⟨w10,hw10⟩: ∃W,W=(w9.alloc (.cells #[.int .i64 0, .int .i64 0, .slice none 0 0, .int .i64 0, .int .i64 0, .int .i64 0, .slice none 0 0, .slice none 0 0, .slice none 0 0] 28)).setRow w9.heap.size (cc.cells (.slice P2 cc.pool.length p2) (.slice I2 cc.ifs.length i2) (.slice F2 cc.flds.length f2) (.slice M2 cc.mths.length m2)).toArray:=⟨_,rfl⟩
   rw [←hw10]
   have XA2:=Hq (show Bx w10 w9.heap.size (cc.cells (.slice P2 cc.pool.length p2) (.slice I2 cc.ifs.length i2) (.slice F2 cc.flds.length f2) (.slice M2 cc.mths.length m2)) 28 by rw [hw10];exact XZ3.out.row _)
   have hBw10:Below w9.heap.size w9 w10:=by rw [hw10];exact bqz ((Below.refl _ _).alloc (Nat.le_refl _) _) _ _ (Nat.le_refl _)
   clear hw10 XZ3
   have X8:=Hq (XA9.out.below hBw10 XA9.out.lt)
   have HS8:=Hq (jqu cc _ _ _ _ _ _ _ _ _ _ w10 (HCc.out.keep (bqE.of_below hBw10)) (HC9.out.keep (bqE.of_below hBw10)))
   have HBf:=Hq (HW9.out.trans (hBw10.mono HW9.out.size))
   have hlt5:=XA9.out.lt
   clear hBw10 XA9 HC9 HCc
   unfold bqp at HS8
   have m0:=X8.out.cell 0 rfl
   have m1:=X8.out.cell 1 rfl
   have m2:=X8.out.cell 2 rfl
   have m3:=X8.out.cell 3 rfl
   have m4:=X8.out.cell 4 rfl
   have m5:=X8.out.cell 5 rfl
   have m6:=X8.out.cell 6 rfl
   have m7:=X8.out.cell 7 rfl
   have m8:=X8.out.cell 8 rfl
   have n0:=XA2.out.cell 0 rfl
   have n1:=XA2.out.cell 1 rfl
   have n2:=XA2.out.cell 2 rfl
   have n3:=XA2.out.cell 3 rfl
   have n4:=XA2.out.cell 4 rfl
   have n5:=XA2.out.cell 5 rfl
   have n6:=XA2.out.cell 6 rfl
   have n7:=XA2.out.cell 7 rfl
   have n8:=XA2.out.cell 8 rfl
   go_wp2_with (first| (go_at_call 11;refine(lqW _ _).mono ?_;rintro e w11 ⟨rfl,rfl⟩) | (go_at_call 12;refine HS8.out.mono ?_;rintro e w11 ⟨rfl,hb11⟩;have HBg:=Hq (HBf.out.trans (hb11.mono HBf.out.size));clear hb11))
   go_ret
   exact⟨rfl,HBg.out⟩
end Go.Proofs.YtlcidkiplidamaaGreatDoor
