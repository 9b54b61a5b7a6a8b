/- Part 9 of what the laws rest on: walks. Conditions: those that each theorem names. -/
import Derived.Test.YtdbniocnjhfhdaaGreatDoorB03
set_option linter.unusedSimpArgs false
set_option linter.unusedVariables false
set_option maxRecDepth 100000
set_option maxHeartbeats 6000000
namespace Go.Proofs.YtdbniocnjhfhdaaGreatDoor
open Go Go.RowKit Lib
theorem iqx (HF:kqW) (HM:iqp) (r:Nat) (A:Option Addr) (cap:Nat) (l:List UInt8) (st:Rs) (w:World) (h:aq2 w r A cap l st) (v4:Value) (hc4:w.cell? ⟨r,4,none⟩=some v4):
  Calls Tryz.prog 94 #[.pointer (some ⟨r,0,none⟩)] w (kqV w r (bqP l st)):=by
 have d1:=h.c1
 have hr:=h.lt
 have H0:=Hq h
 have HC0:=Hq hc4
 have HA0:=Hq (But.refl w.heap.size [r] w)
 have HE0:=Hq (show bqP l st=Rx.bind (aqS l 4 st) _ from rfl)
 have hlenL:=h.len
 clear h hc4
 go_enter Tryz.func94,Tryz.ntmps94
 go_wp2_with (go_at_call 117;refine(aqn r A cap 4 l st _ (H0.out.keepB H0.out Bq9) Om).mono ?_;refine aqa ?_)
 refine aqb ?_
 intro e w1 hq
 rcases hq.cases with⟨a,er,hp,hb,rfl⟩ | ⟨x1,s1,v,hp,hb,rfl,⟨rfl,hn1⟩,hs⟩
 ·have HP:=Hq (HE0.out.trans (aqg hp))
  clear hp
  have HA:=Hq (aqW HA0.out Bq9 hb.but)
  clear hb
  go_wp2_with fail
  exact(show _∧_ from⟨rfl,aqG HP.out HA.out⟩)
 ·have HE1:=Hq (HE0.out.trans (aqi hp))
  clear hp
  have HA1:=Hq (aqW HA0.out Bq9 hb.but)
  have HC1:=Hq (hb.c4.trans ((World.cell?_alloc_lt _ _ _ Fx9).trans ((World.cell?_alloc_lt _ _ _ Fx9).trans HC0.out)))
  have HS1:=Hq hs
  have hz1:=hb.but.size
  try simp at hz1
  have hy1:=HA1.out.size
  have e_br: ¬w.heap.size=r:=by omega
  have e_br': ¬r=w.heap.size:=by omega
  have e_cr: ¬w.heap.size+1=r:=by omega
  have e_cr': ¬r=w.heap.size+1:=by omega
  have e_cb: ¬w.heap.size+1=w.heap.size:=by omega
  have e_cb': ¬w.heap.size=w.heap.size+1:=by omega
  have X1_b:=Hq (((aqh _ [.int .i64 0, .int .i64 0, .slice none 0 0, .int .i64 0, .int .i64 0, .int .i64 0, .slice none 0 0, .slice none 0 0, .slice none 0 0] 58 (w.heap.size) Sp).below (Rf9.alloc Nr _) (aqh _ [.int .i64 0, .int .i64 0, .slice none 0 0, .int .i64 0, .int .i64 0, .int .i64 0, .slice none 0 0, .slice none 0 0, .slice none 0 0] 58 (w.heap.size) Sp).lt).but hb.but (aqk Om))
  have X1_c:=Hq ((aqh _ [.int .i64 0, .int .i64 0, .slice none 0 0, .int .i64 0, .int .i64 0, .int .i64 0, .slice none 0 0, .slice none 0 0, .slice none 0 0] 58 (w.heap.size+1) Sp).but hb.but (aqk Om))
  clear hb hs
  by_cases t1:x1≠3405691582
  ·have HE1:=Hq (HE1.out.trans (if_pos t1))
   have tb:((x1:Int) !=3405691582)=true:=by simp;omega
   go_wp2_with (go_at_call 118;refine(bqe _ _ _ _).mono ?_;rintro e w9 ⟨rfl,rfl⟩)
   exact(show _∧_ from⟨rfl,aqG HE1.out (HA1.out.below_trans Bq9)⟩)
  have HE1:=Hq (HE1.out.trans (if_neg t1))
  have tm:((x1:Int) !=3405691582)=false:=by simp;omega
  go_wp2_with (go_at_call 117;refine(aqn r A cap 2 l s1 _ (H0.out.keepB HS1.out Bq9) Om).mono ?_;refine aqa ?_)
  refine aqb ?_
  intro e w2 hq
  rcases hq.cases with⟨a,er,hp,hb,rfl⟩ | ⟨x2,s2,v,hp,hb,rfl,⟨rfl,hn2⟩,hs⟩
  ·have HP:=Hq (HE1.out.trans (aqg hp))
   clear hp
   have HA:=Hq (aqW HA1.out Bq9 hb.but)
   clear hb
   go_wp2_with fail
   exact(show _∧_ from⟨rfl,aqG HP.out HA.out⟩)
  ·have HE2:=Hq (HE1.out.trans (aqi hp))
   clear hp
   have HA2:=Hq (aqW HA1.out Bq9 hb.but)
   have HC2:=Hq (hb.c4.trans HC1.out)
   have HS2:=Hq hs
   have hz2:=hb.but.size
   try simp at hz2
   have hy2:=HA2.out.size
   have X2_b:=Hq (X1_b.out.but hb.but (aqk Om))
   have X2_c:=Hq (X1_c.out.but hb.but (aqk Om))
   clear hb hs X1_b X1_c
   go_wp2_with (go_at_call 117;refine(aqn r A cap 2 l s2 _ (H0.out.keepB HS2.out Bq9) Om).mono ?_;refine aqa ?_)
   refine aqb ?_
   intro e w3 hq
   rcases hq.cases with⟨a,er,hp,hb,rfl⟩ | ⟨x3,s3,v,hp,hb,rfl,⟨rfl,hn3⟩,hs⟩
   ·have HP:=Hq (HE2.out.trans (aqg hp))
    clear hp
    have HA:=Hq (aqW HA2.out Bq9 hb.but)
    clear hb
    go_wp2_with fail
    exact(show _∧_ from⟨rfl,aqG HP.out HA.out⟩)
   ·have HE3:=Hq (HE2.out.trans (aqi hp))
    clear hp
    have HA3:=Hq (aqW HA2.out Bq9 hb.but)
    have HC3:=Hq (hb.c4.trans HC2.out)
    have HS3:=Hq hs
    have hz3:=hb.but.size
    try simp at hz3
    have hy3:=HA3.out.size
    have X3_b:=Hq (X2_b.out.but hb.but (aqk Om))
    have X3_c:=Hq (X2_c.out.but hb.but (aqk Om))
    clear hb hs X2_b X2_c
    have c_c0:=X3_c.out.cell 0 rfl
    have z_c0:=X3_c.out.frozen 0
    have c_c1:=X3_c.out.cell 1 rfl
    have z_c1:=X3_c.out.frozen 1
    have d3:=HS3.out.c1
    go_wp2_with (go_at_call 119;refine(dqT r A cap 1025 l s3 _ (H0.out.keepB HS3.out Bq9) Om).mono ?_;refine aqa ?_)
    refine aqb ?_
    intro e w4 hq
    rcases hq.cases with⟨a,er,hp,hb,rfl⟩ | ⟨x4,s4,v,hp,hb,rfl,⟨rfl,hn4⟩,hs⟩
    ·have HP:=Hq (HE3.out.trans (aqg hp))
     clear hp
     have HA:=Hq (aqW HA3.out Bq9 hb.but)
     clear hb
     go_wp2_with fail
     exact(show _∧_ from⟨rfl,aqG HP.out HA.out⟩)
    ·have HE4:=Hq (HE3.out.trans (aqi hp))
     clear hp
     have HA4:=Hq (aqW HA3.out Bq9 hb.but)
     have HC4:=Hq (hb.c4.trans ((World.cell?_setCell_other _ _ _ _ Fx9).trans ((World.cell?_setCell_other _ _ _ _ Fx9).trans HC3.out)))
     have HS4:=Hq hs
     have hz4:=hb.but.size
     try simp at hz4
     have hy4:=HA4.out.size
     have X4_b:=Hq (((X3_b.out.set_other _ _ Fx9).set_other _ _ Fx9).but hb.but (aqk Om))
     have X4_c:=Hq (((X3_c.out.set 0 (.int .i64 x2)).set 1 (.int .i64 x3)).but hb.but (aqk Om))
     clear hb hs X3_b X3_c
     clear d3
     clear c_c0 z_c0 c_c1 z_c1
     by_cases t4:x4=0
     ·have HE4:=Hq (HE4.out.trans (if_pos t4))
      subst t4
      go_wp2_with (go_at_call 118;refine(bqe _ _ _ _).mono ?_;rintro e w9 ⟨rfl,rfl⟩)
      exact(show _∧_ from⟨rfl,aqG HE4.out (HA4.out.below_trans Bq9)⟩)
     have HE4:=Hq (HE4.out.trans (if_neg t4))
     obtain⟨m,rfl⟩: ∃m,x4=m+1:=⟨x4 - 1,by omega⟩
     have tz:(((m+1:Nat):Int)==0)=false:=by simp;omega
     have tz2:((m:Int)+1==0)=false:=by simp;omega
     have HE4:=Hq (show bqP l st=Rx.bind (bqO (koP l) m s4) (nq4 l x2 x3) from HE4.out)
     clear t4
     have HOW:=Hq (World.ownsRow_nil w4 w4.heap.size 78 5)
     have HKW:=Hq (Kp.refl (w.heap.size+2) w4)
     have hbase1:w.heap.size+2≤w4.heap.size:=by omega
     go_wp2_with fail
     go_loopw [30] (fun i wr1=> ∃(k:Nat) (sr:Rs) (ks:List Ko) (pv:Value),k≤m∧i= .int .i64 k∧ks.length=k∧Hid (But w.heap.size [r] w wr1)∧Hid (aq2 wr1 r A cap l sr)∧Hid (Bx wr1 (w.heap.size+1) [.int .i64 x2, .int .i64 x3,pv, .int .i64 0, .int .i64 0, .int .i64 0, .slice none 0 0, .slice none 0 0, .slice none 0 0] 58)∧Hid (Bx wr1 w.heap.size [.int .i64 0, .int .i64 0, .slice none 0 0, .int .i64 0, .int .i64 0, .int .i64 0, .slice none 0 0, .slice none 0 0, .slice none 0 0] 58)∧Hid (wr1.ownsRow w4.heap.size 78 5 pv ks.length (ks.flatMap Ko.cells))∧Hid (bqP l st=Rx.bind (Rx.pre ks (bqO (koP l) (m - k) sr)) (nq4 l x2 x3))∧Hid (Kp (w.heap.size+2) w4 wr1)∧Hid (wr1.cell? ⟨r,4,none⟩=some v4)) (fun i _=>m - (RowKit.intOf i).toNat)
     case atStart=>exact⟨0,s4, [], .slice none 0 0,by omega,rfl,rfl,HA4,HS4,X4_c,X4_b,HOW,Hq (by rw [Rx.pre_nil];exact HE4.out),HKW,HC4⟩
     case round=>
      obtain⟨wr1,hwr⟩: ∃W,W=wr:=⟨_,rfl⟩
      subst hwr
      obtain⟨k1,sr1,ks1,pv1,hk1,rfl,hkl,HAr,HSr,Xc,Xb,HOr,HEr,HKr,HCr⟩:=hrel
      have hyr1:=HKr.out.size
      have HKL:=Hq hkl
      clear hkl
      have e_cr1: ¬w.heap.size+1=r:=by omega
      by_cases hlt:k1<m
      ·have HMK:=Hq (show m - k1=(m - (k1+1))+1 by omega)
       have c_c:=Xc.out.cell 2 rfl
       have z_c:=Xc.out.frozen 2
       go_wp2_with fail
       go_region_law (first
 | (refine aq6 rfl (.tmp 33) (.tmp 36) 53 rfl Tryz.underlying53 eqT rfl Om w4.heap.size rfl (HO5.out.alloc _) rfl rfl (aq3 _ _ _) Oc Om (by have:=HKL.out;simp only [maxLen];omega) (by have:=HKL.out;omega) Sd ?_
    intro g6 cap6 W' ho hg hb hgg
    have X6:=Hq ((Xc5.out.below (Rf9.alloc Nr _) Xc5.out.lt).below hb Om)
    have B6:=Hq ((Xb5.out.below (Rf9.alloc Nr _) Xb5.out.lt).below hb Om)
    have HO6:=Hq ho
    have HL6:=Hq (((Below.refl w4.heap.size wq).alloc Om _).trans hb)
    have hge6:=(ho.lt g6 rfl).1
    have c_6:=X6.out.cell 2 rfl
    have z_6:=X6.out.frozen 2
    have hz6:=hb.size
    skip
    clear ho hg hb hgg)
 | (go_simp;go_at_call 120;go_loud (
    refine(hqd r A cap l sr1 _ (H0.out.keepB HSr.out Bq9)).mono ?_
    intro e wq hq
    rcases hq.cases with⟨a,er,hp,hb5,rfl⟩ | ⟨xq,sq,v,hp,hb5,rfl,rfl,hs⟩
    (have HP:=Hq (HEr.out.trans (aqg (by rw [HMK.out];exact dqR hp)));have HA:=Hq (aqW HAr.out Bq9 hb5.but);clear hp hb5;exact(show _∧_ from⟨rfl,aqG HP.out HA.out⟩))
    simp only [koV]
    have HE5:=Hq (HEr.out.trans (congrArg (fun z=>Rx.bind z (nq4 l x2 x3)) (show _=Rx.pre (ks1++ [xq]) (bqO (koP l) (m - (k1+1)) sq) by rw [HMK.out];exact dqQ hp)))
    skip
    have HA5:=Hq (aqW HAr.out Bq9 hb5.but)
    have HS5:=Hq hs
    have hz5:=hb5.but.size
    have hy5:wr1.heap.size≤wq.heap.size:=hz5
    have Xc5:=Hq ((Xc.out.below (Rf9.drew) Xc.out.lt).but hb5.but (aqk Om))
    have Xb5:=Hq ((Xb.out.below (Rf9.drew) Xb.out.lt).but hb5.but (aqk Om))
    have HK5:=Hq ((HKr.out.below (Rf9.drew)).step hb5.but Om trivial)
    have HC5:=Hq (hb5.c4.trans HCr.out)
    have HO5:=Hq (aqj HOr.out fun q hq=>hb5.but.block q (HOr.out.lt q hq).2 (aqk (by have:=(HOr.out.lt q hq).1;omega)))
    skip
    have c_5:=Xc5.out.cell 2 rfl
    have hlt5:w.heap.size+1<wq.heap.size:=by omega
    clear hp hb5 hs)))
       all_goals go_wp2_with fail
       all_goals
        go_roundw
        case rel=>exact⟨k1+1,sq,ks1++ [xq],_,by omega,by go_num,by simp [HKL.out],Hq (HA5.out.below_trans ((HL6.out.mono Om).setCell Sp _)),Hq (H0.out.keepB HS5.out ((HL6.out.mono Om).setCell Sp _)),Hq (X6.out.set 2 _),Hq (B6.out.set_other _ _ Sp),Hq (aqF (bqQ HO6.out Sd _) Sp (by simp [Ko.cells])),HE5,Hq ((HK5.out.below (HL6.out.mono Nr)).set _ _ Sp),Hq ((World.cell?_setCell_other _ _ _ _ Fx9).trans ((HL6.out.cell (p:=⟨r,4,none⟩) Sd).trans HC5.out))⟩
        case measure=>simp [RowKit.intOf];omega
      ·obtain rfl:k1=m:=by omega
       have HEx1:=Hq ((HEr.out.trans (congrArg (fun z=>Rx.bind z (nq4 l x2 x3)) (show _=Except.ok (ks1,sr1) by rw [Nat.sub_self];exact dq7))).trans (Rx.bind_ok _ _ _))
       have HR1:=Hq (aqs HOr.out (fun g=>w.heap.size+2≤g) Om (by have:=HKL.out;omega) (fun q hq=>by have:=(HOr.out.lt q hq).1;omega))
       obtain⟨Ap1,cp1,hpv⟩:=aq7 HOr.out
       subst hpv
       clear hlt HOr HEr
       have z_r4:=HSr.out.fz 4
       have hrr:=HSr.out.lt
       have c_r4:=HCr.out
       have c_cp:=Xc.out.cell 2 rfl
       have HSP:=Hq (mqD HSr.out ks1 (.slice Ap1 ks1.length cp1))
       have HAP:=Hq (HAr.out.set ⟨r,4,none⟩ (.inl Sp) (.slice Ap1 ks1.length cp1))
       have HKP:=Hq ((Kp.refl (w.heap.size+2) wr1).set ⟨r,4,none⟩ (.slice Ap1 ks1.length cp1) Sd)
       have HCP:=Hq (World.cell?_setCell_same _ _ (.slice Ap1 ks1.length cp1) HCr.out)
       have XcP:=Hq (Xc.out.set_other ⟨r,4,none⟩ (.slice Ap1 ks1.length cp1) Sd)
       have XbP:=Hq (Xb.out.set_other ⟨r,4,none⟩ (.slice Ap1 ks1.length cp1) Sd)
       have HEP:=Hq (show bqP l st=Rx.bind (aqS l 2 { sr1 with pool:=ks1 }) _ from HEx1.out)
       have hyP:w.heap.size+2≤(wr1.setCell ⟨r,4,none⟩ (.slice Ap1 ks1.length cp1)).heap.size:=by simp;omega
       have hyP2:wr1.heap.size≤(wr1.setCell ⟨r,4,none⟩ (.slice Ap1 ks1.length cp1)).heap.size:=by simp
       clear HSr HAr Xc Xb HKr
       go_wp2_with fail
       generalize wr1.setCell ⟨r,4,none⟩ (.slice Ap1 ks1.length cp1)=wP at*
       clear z_r4 hrr c_r4 HCr
       have c_cp:=XcP.out.cell 2 rfl
       go_wp2_with (go_at_call 117;refine(aqn r A cap 2 l { sr1 with pool:=ks1 } _ (H0.out.keepB HSP.out Bq9) Om).mono ?_;refine aqa ?_)
       refine aqb ?_
       intro e w5 hq
       rcases hq.cases with⟨a,er,hp,hb,rfl⟩ | ⟨x5,s5,v,hp,hb,rfl,⟨rfl,hn5⟩,hs⟩
       ·have HP:=Hq (HEP.out.trans (aqg hp))
        clear hp
        have HA:=Hq (aqW HAP.out Bq9 hb.but)
        clear hb
        go_wp2_with fail
        exact(show _∧_ from⟨rfl,aqG HP.out HA.out⟩)
       ·have HE5:=Hq (HEP.out.trans (aqi hp))
        have hpx:=hp
        clear hp
        have HA5:=Hq (aqW HAP.out Bq9 hb.but)
        have HK5:=Hq (HKP.out.step hb.but Om trivial)
        have HC5:=Hq (hb.c4.trans HCP.out)
        have HS5:=Hq hs
        have hz5:=hb.but.size
        try simp at hz5
        have hy5:=HA5.out.size
        have X5_b:=Hq (XbP.out.but hb.but (aqk Om))
        have X5_c:=Hq (XcP.out.but hb.but (aqk Om))
        clear hb hs XcP XbP
        have HPL5:=Hq (show s5.pool=ks1 from aqv _ _ _ _ _ hpx)
        clear hpx
        go_wp2_with (go_at_call 117;refine(aqn r A cap 2 l s5 _ (H0.out.keepB HS5.out Bq9) Om).mono ?_;refine aqa ?_)
        refine aqb ?_
        intro e w6 hq
        rcases hq.cases with⟨a,er,hp,hb,rfl⟩ | ⟨x6,s6,v,hp,hb,rfl,⟨rfl,hn6⟩,hs⟩
        ·have HP:=Hq (HE5.out.trans (aqg hp))
         clear hp
         have HA:=Hq (aqW HA5.out Bq9 hb.but)
         clear hb
         go_wp2_with fail
         exact(show _∧_ from⟨rfl,aqG HP.out HA.out⟩)
        ·have HE6:=Hq (HE5.out.trans (aqi hp))
         have hpx:=hp
         clear hp
         have HA6:=Hq (aqW HA5.out Bq9 hb.but)
         have HK6:=Hq (HK5.out.step hb.but Om trivial)
         have HC6:=Hq (hb.c4.trans HC5.out)
         have HS6:=Hq hs
         have hz6:=hb.but.size
         try simp at hz6
         have hy6:=HA6.out.size
         have X6_b:=Hq (X5_b.out.but hb.but (aqk Om))
         have X6_c:=Hq (X5_c.out.but hb.but (aqk Om))
         clear hb hs X5_c X5_b
         have HPL6:=Hq ((aqv _ _ _ _ _ hpx).trans HPL5.out)
         clear hpx
         go_wp2_with (go_at_call 117;refine(aqn r A cap 2 l s6 _ (H0.out.keepB HS6.out Bq9) Om).mono ?_;refine aqa ?_)
         refine aqb ?_
         intro e w7 hq
         rcases hq.cases with⟨a,er,hp,hb,rfl⟩ | ⟨x7,s7,v,hp,hb,rfl,⟨rfl,hn7⟩,hs⟩
         ·have HP:=Hq (HE6.out.trans (aqg hp))
          clear hp
          have HA:=Hq (aqW HA6.out Bq9 hb.but)
          clear hb
          go_wp2_with fail
          exact(show _∧_ from⟨rfl,aqG HP.out HA.out⟩)
         ·have HE7:=Hq (HE6.out.trans (aqi hp))
          have hpx:=hp
          clear hp
          have HA7:=Hq (aqW HA6.out Bq9 hb.but)
          have HK7:=Hq (HK6.out.step hb.but Om trivial)
          have HC7:=Hq (hb.c4.trans HC6.out)
          have HS7:=Hq hs
          have hz7:=hb.but.size
          try simp at hz7
          have hy7:=HA7.out.size
          have X7_b:=Hq (X6_b.out.but hb.but (aqk Om))
          have X7_c:=Hq (X6_c.out.but hb.but (aqk Om))
          clear hb hs X6_c X6_b
          have HPL7:=Hq ((aqv _ _ _ _ _ hpx).trans HPL6.out)
          clear hpx
          have c_c3:=X7_c.out.cell 3 rfl
          have z_c3:=X7_c.out.frozen 3
          have c_c4:=X7_c.out.cell 4 rfl
          have z_c4:=X7_c.out.frozen 4
          have c_c5:=X7_c.out.cell 5 rfl
          have z_c5:=X7_c.out.frozen 5
          go_wp2_with (go_at_call 119;refine(dqT r A cap 64 l s7 _ (H0.out.keepB HS7.out Bq9) Om).mono ?_;refine aqa ?_)
          refine aqb ?_
          intro e w8 hq
          rcases hq.cases with⟨a,er,hp,hb,rfl⟩ | ⟨x8,s8,v,hp,hb,rfl,⟨rfl,hn8⟩,hs⟩
          ·have HP:=Hq (HE7.out.trans (aqg hp))
           clear hp
           have HA:=Hq (aqW HA7.out Bq9 hb.but)
           clear hb
           go_wp2_with fail
           exact(show _∧_ from⟨rfl,aqG HP.out HA.out⟩)
          ·have HE8:=Hq (HE7.out.trans (aqi hp))
           have hpx:=hp
           clear hp
           have HA8:=Hq (aqW HA7.out Bq9 hb.but)
           have HK8:=Hq ((Hq ((Hq ((Hq (HK7.out.set _ _ Fx9)).out.set _ _ Fx9)).out.set _ _ Fx9)).out.step hb.but Om trivial)
           have HC8:=Hq (hb.c4.trans ((World.cell?_setCell_other _ _ _ _ Fx9).trans ((World.cell?_setCell_other _ _ _ _ Fx9).trans ((World.cell?_setCell_other _ _ _ _ Fx9).trans HC7.out))))
           have HS8:=Hq hs
           have hz8:=hb.but.size
           try simp at hz8
           have hy8:=HA8.out.size
           have X8_b:=Hq ((((X7_b.out.set_other _ _ Fx9).set_other _ _ Fx9).set_other _ _ Fx9).but hb.but (aqk Om))
           have X8_c:=Hq ((((X7_c.out.set 3 (.int .i64 x5)).set 4 (.int .i64 x6)).set 5 (.int .i64 x7)).but hb.but (aqk Om))
           clear hb hs X7_c X7_b
           have HPL8:=Hq ((cqM _ _ _ _ _ hpx).trans HPL7.out)
           clear hpx
           clear c_c3 z_c3 c_c4 z_c4 c_c5 z_c5
           have HRP2:=Hq (HK8.out.slat HR1.out)
           clear HR1
           have HOW:=Hq (World.ownsRow_nil w8 w8.heap.size 3 1)
           have HKW:=Hq (Kp.refl (w.heap.size+2) w8)
           have hbase2:w.heap.size+2≤w8.heap.size:=by omega
           go_wp2_with fail
           go_loopw [56] (fun i wr2=> ∃(k:Nat) (sr:Rs) (ks:List Nat) (pv:Value),k≤x8∧i= .int .i64 k∧ks.length=k∧Hid (But w.heap.size [r] w wr2)∧Hid (aq2 wr2 r A cap l sr)∧Hid (sr.pool=ks1)∧Hid (Bx wr2 (w.heap.size+1) [.int .i64 x2, .int .i64 x3, .slice Ap1 ks1.length cp1, .int .i64 x5, .int .i64 x6, .int .i64 x7,pv, .slice none 0 0, .slice none 0 0] 58)∧Hid (Bx wr2 w.heap.size [.int .i64 0, .int .i64 0, .slice none 0 0, .int .i64 0, .int .i64 0, .int .i64 0, .slice none 0 0, .slice none 0 0, .slice none 0 0] 58)∧Hid (wr2.ownsRow w8.heap.size 3 1 pv ks.length (ks.map fun n:Nat=>Value.int .i64 n))∧Hid (bqP l st=Rx.bind (Rx.pre ks (bqO (aqS l 2) (x8 - k) sr)) (nqP l x2 x3 ks1 x5 x6 x7))∧Hid (Kp (w.heap.size+2) w8 wr2)∧Hid (wr2.cell? ⟨r,4,none⟩=some (.slice Ap1 ks1.length cp1))) (fun i _=>x8 - (RowKit.intOf i).toNat)
           case atStart=>exact⟨0,s8, [], .slice none 0 0,by omega,rfl,rfl,HA8,HS8,HPL8,X8_c,X8_b,HOW,Hq (by rw [Rx.pre_nil];exact HE8.out),HKW,HC8⟩
           case round=>
            obtain⟨wr2,hwr⟩: ∃W,W=wr:=⟨_,rfl⟩
            subst hwr
            obtain⟨k2,sr2,ks2,pv2,hk2,rfl,hkl,HAr,HSr,HPLr,Xc,Xb,HOr,HEr,HKr,HCr⟩:=hrel
            have hyr2:=HKr.out.size
            have HKL:=Hq hkl
            clear hkl
            have e_cr2: ¬w.heap.size+1=r:=by omega
            by_cases hlt:k2<x8
            ·have HMK:=Hq (show x8 - k2=(x8 - (k2+1))+1 by omega)
             have c_c:=Xc.out.cell 6 rfl
             have z_c:=Xc.out.frozen 6
             go_wp2_with fail
             go_region_law (first
 | (refine aq6 rfl (.tmp 59) (.tmp 62) 54 rfl Tryz.underlying54 gqK rfl Om w8.heap.size rfl (HO5.out.alloc _) rfl rfl (aq3 _ _ _) Oc Om (by have:=HKL.out;simp only [maxLen];omega) (by have:=HKL.out;omega) Sd ?_
    intro g6 cap6 W' ho hg hb hgg
    have X6:=Hq ((Xc5.out.below (Rf9.alloc Nr _) Xc5.out.lt).below hb Om)
    have B6:=Hq ((Xb5.out.below (Rf9.alloc Nr _) Xb5.out.lt).below hb Om)
    have HO6:=Hq ho
    have HL6:=Hq (((Below.refl w8.heap.size wq).alloc Om _).trans hb)
    have hge6:=(ho.lt g6 rfl).1
    have c_6:=X6.out.cell 6 rfl
    have z_6:=X6.out.frozen 6
    have hz6:=hb.size
    skip
    clear ho hg hb hgg)
 | (go_simp;go_at_call 117;go_loud (
    refine(aqn r A cap 2 l sr2 _ (H0.out.keepB HSr.out Bq9) Om).mono ?_
    intro e wq hq
    rcases hq.cases with⟨a,er,hp,hb5,rfl⟩ | ⟨xq,sq,v,hp,hb5,rfl,⟨rfl,hn5⟩,hs⟩
    (have HP:=Hq (HEr.out.trans (aqg (by rw [HMK.out];exact dqR hp)));have HA:=Hq (aqW HAr.out Bq9 hb5.but);clear hp hb5;exact(show _∧_ from⟨rfl,aqG HP.out HA.out⟩))
    skip
    have HE5:=Hq (HEr.out.trans (congrArg (fun z=>Rx.bind z (nqP l x2 x3 ks1 x5 x6 x7)) (show _=Rx.pre (ks2++ [xq]) (bqO (aqS l 2) (x8 - (k2+1)) sq) by rw [HMK.out];exact dqQ hp)))
    have HPL5:=Hq ((aqv _ _ _ _ _ hp).trans HPLr.out)
    have HA5:=Hq (aqW HAr.out Bq9 hb5.but)
    have HS5:=Hq hs
    have hz5:=hb5.but.size
    have hy5:wr2.heap.size≤wq.heap.size:=hz5
    have Xc5:=Hq ((Xc.out.below (Rf9.drew) Xc.out.lt).but hb5.but (aqk Om))
    have Xb5:=Hq ((Xb.out.below (Rf9.drew) Xb.out.lt).but hb5.but (aqk Om))
    have HK5:=Hq ((HKr.out.below (Rf9.drew)).step hb5.but Om trivial)
    have HC5:=Hq (hb5.c4.trans HCr.out)
    have HO5:=Hq (aqj HOr.out fun q hq=>hb5.but.block q (HOr.out.lt q hq).2 (aqk (by have:=(HOr.out.lt q hq).1;omega)))
    skip
    have c_5:=Xc5.out.cell 6 rfl
    have hlt5:w.heap.size+1<wq.heap.size:=by omega
    clear hp hb5 hs)))
             all_goals go_wp2_with fail
             all_goals
              go_roundw
              case rel=>exact⟨k2+1,sq,ks2++ [xq],_,by omega,by go_num,by simp [HKL.out],Hq (HA5.out.below_trans ((HL6.out.mono Om).setCell Sp _)),Hq (H0.out.keepB HS5.out ((HL6.out.mono Om).setCell Sp _)),HPL5,Hq (X6.out.set 6 _),Hq (B6.out.set_other _ _ Sp),Hq (aqF (bqQ HO6.out Sd _) Sp (by simp [])),HE5,Hq ((HK5.out.below (HL6.out.mono Nr)).set _ _ Sp),Hq ((World.cell?_setCell_other _ _ _ _ Fx9).trans ((HL6.out.cell (p:=⟨r,4,none⟩) Sd).trans HC5.out))⟩
              case measure=>simp [RowKit.intOf];omega
            ·obtain rfl:k2=x8:=by omega
             have HEx2:=Hq ((HEr.out.trans (congrArg (fun z=>Rx.bind z (nqP l x2 x3 ks1 x5 x6 x7)) (show _=Except.ok (ks2,sr2) by rw [Nat.sub_self];exact dq7))).trans (Rx.bind_ok _ _ _))
             have HR2:=Hq (aqs HOr.out (fun g=>w.heap.size+2≤g) Om (by have:=HKL.out;omega) (fun q hq=>by have:=(HOr.out.lt q hq).1;omega))
             obtain⟨Ap2,cp2,hpv⟩:=aq7 HOr.out
             subst hpv
             clear hlt HOr HEr
             have HRP2:=Hq (HKr.out.slat HRP2.out)
             have HKr:=Hq (Kp.refl (w.heap.size+2) wr2)
             go_wp2_with (go_at_call 119;refine(dqT r A cap 64 l sr2 _ (H0.out.keepB HSr.out Bq9) Om).mono ?_;refine aqa ?_)
             refine aqb ?_
             intro e w9 hq
             rcases hq.cases with⟨a,er,hp,hb,rfl⟩ | ⟨x9,s9,v,hp,hb,rfl,⟨rfl,hn9⟩,hs⟩
             ·have HP:=Hq (HEx2.out.trans (aqg hp))
              clear hp
              have HA:=Hq (aqW HAr.out Bq9 hb.but)
              clear hb
              go_wp2_with fail
              exact(show _∧_ from⟨rfl,aqG HP.out HA.out⟩)
             ·have HE9:=Hq (HEx2.out.trans (aqi hp))
              have hpx:=hp
              clear hp
              have HA9:=Hq (aqW HAr.out Bq9 hb.but)
              have HK9:=Hq (HKr.out.step hb.but Om trivial)
              have HC9:=Hq (hb.c4.trans HCr.out)
              have HS9:=Hq hs
              have hz9:=hb.but.size
              try simp at hz9
              have hy9:=HA9.out.size
              have X9_b:=Hq (Xb.out.but hb.but (aqk Om))
              have X9_c:=Hq (Xc.out.but hb.but (aqk Om))
              clear hb hs Xc Xb
              have HPL9:=Hq ((cqM _ _ _ _ _ hpx).trans HPLr.out)
              clear hpx
              have HRP2:=Hq (HK9.out.slat HRP2.out)
              have HR2:=Hq (HK9.out.slat HR2.out)
              have HOW:=Hq (World.ownsRow_nil w9 w9.heap.size 119 4)
              have HKW:=Hq (Kp.refl (w.heap.size+2) w9)
              have hbase3:w.heap.size+2≤w9.heap.size:=by omega
              go_wp2_with fail
              go_loopw [68] (fun i wr3=> ∃(k:Nat) (sr:Rs) (ks:List aqq) (pv:Value),k≤x9∧i= .int .i64 k∧ks.length=k∧Hid (But w.heap.size [r] w wr3)∧Hid (aq2 wr3 r A cap l sr)∧Hid (sr.pool=ks1)∧Hid (Bx wr3 (w.heap.size+1) [.int .i64 x2, .int .i64 x3, .slice Ap1 ks1.length cp1, .int .i64 x5, .int .i64 x6, .int .i64 x7, .slice Ap2 ks2.length cp2,pv, .slice none 0 0] 58)∧Hid (Bx wr3 w.heap.size [.int .i64 0, .int .i64 0, .slice none 0 0, .int .i64 0, .int .i64 0, .int .i64 0, .slice none 0 0, .slice none 0 0, .slice none 0 0] 58)∧Hid (wr3.ownsRow w9.heap.size 119 4 pv ks.length (ks.flatMap aqq.cells))∧Hid (bqP l st=Rx.bind (Rx.pre ks (bqO (bqY l) (x9 - k) sr)) (mqy l x2 x3 ks1 x5 x6 x7 ks2))∧Hid (Kp (w.heap.size+2) w9 wr3)∧Hid (wr3.cell? ⟨r,4,none⟩=some (.slice Ap1 ks1.length cp1))) (fun i _=>x9 - (RowKit.intOf i).toNat)
              case atStart=>exact⟨0,s9, [], .slice none 0 0,by omega,rfl,rfl,HA9,HS9,HPL9,X9_c,X9_b,HOW,Hq (by rw [Rx.pre_nil];exact HE9.out),HKW,HC9⟩
              case round=>
               obtain⟨wr3,hwr⟩: ∃W,W=wr:=⟨_,rfl⟩
               subst hwr
               obtain⟨k3,sr3,ks3,pv3,hk3,rfl,hkl,HAr,HSr,HPLr,Xc,Xb,HOr,HEr,HKr,HCr⟩:=hrel
               have hyr3:=HKr.out.size
               have HKL:=Hq hkl
               clear hkl
               have e_cr3: ¬w.heap.size+1=r:=by omega
               by_cases hlt:k3<x9
               ·have HMK:=Hq (show x9 - k3=(x9 - (k3+1))+1 by omega)
                have c_c:=Xc.out.cell 7 rfl
                have z_c:=Xc.out.frozen 7
                have HPP:=Hq (show eqA wr3 r (fun g=>w.heap.size+2≤g) sr3.pool by rw [HPLr.out];exact⟨_,HCr.out,HKr.out.slat HRP2.out⟩)
                go_wp2_with fail
                go_region_law (first
 | (refine aq6 rfl (.tmp 71) (.tmp 74) 55 rfl Tryz.underlying55 eqU rfl Om w9.heap.size rfl (HO5.out.alloc _) rfl rfl (aq3 _ _ _) Oc Om (by have:=HKL.out;simp only [maxLen];omega) (by have:=HKL.out;omega) Sd ?_
    intro g6 cap6 W' ho hg hb hgg
    have X6:=Hq ((Xc5.out.below (Rf9.alloc Nr _) Xc5.out.lt).below hb Om)
    have B6:=Hq ((Xb5.out.below (Rf9.alloc Nr _) Xb5.out.lt).below hb Om)
    have HO6:=Hq ho
    have HL6:=Hq (((Below.refl w9.heap.size wq).alloc Om _).trans hb)
    have hge6:=(ho.lt g6 rfl).1
    have c_6:=X6.out.cell 7 rfl
    have z_6:=X6.out.frozen 7
    have hz6:=hb.size
    skip
    clear ho hg hb hgg)
 | (go_simp;go_at_call 121;go_loud (
    refine(HF r A cap l sr3 _ (fun g=>w.heap.size+2≤g) (fun g hg=>by omega) (H0.out.keepB HSr.out Bq9) (HPP.out.low Om Bq9)).mono ?_
    intro e wq hq
    rcases hq.cases with⟨a,er,hp,hb5,rfl⟩ | ⟨xq,sq,v,hp,hb5,rfl,rfl,hs⟩
    (have HP:=Hq (HEr.out.trans (aqg (by rw [HMK.out];exact dqR hp)));have HA:=Hq (aqW HAr.out Bq9 hb5.but);clear hp hb5;exact(show _∧_ from⟨rfl,aqG HP.out HA.out⟩))
    simp only [bq0]
    have HE5:=Hq (HEr.out.trans (congrArg (fun z=>Rx.bind z (mqy l x2 x3 ks1 x5 x6 x7 ks2)) (show _=Rx.pre (ks3++ [xq]) (bqO (bqY l) (x9 - (k3+1)) sq) by rw [HMK.out];exact dqQ hp)))
    have HPL5:=Hq ((iqo _ _ _ _ hp).trans HPLr.out)
    have HA5:=Hq (aqW HAr.out Bq9 hb5.but)
    have HS5:=Hq hs
    have hz5:=hb5.but.size
    have hy5:wr3.heap.size≤wq.heap.size:=hz5
    have Xc5:=Hq ((Xc.out.below (Rf9.drew) Xc.out.lt).but hb5.but (aqk Om))
    have Xb5:=Hq ((Xb.out.below (Rf9.drew) Xb.out.lt).but hb5.but (aqk Om))
    have HK5:=Hq ((HKr.out.below (Rf9.drew)).step hb5.but Om trivial)
    have HC5:=Hq (hb5.c4.trans HCr.out)
    have HO5:=Hq (aqj HOr.out fun q hq=>hb5.but.block q (HOr.out.lt q hq).2 (aqk (by have:=(HOr.out.lt q hq).1;omega)))
    skip
    have c_5:=Xc5.out.cell 7 rfl
    have hlt5:w.heap.size+1<wq.heap.size:=by omega
    clear hp hb5 hs)))
                all_goals go_wp2_with fail
                all_goals
                 go_roundw
                 case rel=>exact⟨k3+1,sq,ks3++ [xq],_,by omega,by go_num,by simp [HKL.out],Hq (HA5.out.below_trans ((HL6.out.mono Om).setCell Sp _)),Hq (H0.out.keepB HS5.out ((HL6.out.mono Om).setCell Sp _)),HPL5,Hq (X6.out.set 7 _),Hq (B6.out.set_other _ _ Sp),Hq (aqF (bqQ HO6.out Sd _) Sp (by simp [aqq.cells])),HE5,Hq ((HK5.out.below (HL6.out.mono Nr)).set _ _ Sp),Hq ((World.cell?_setCell_other _ _ _ _ Fx9).trans ((HL6.out.cell (p:=⟨r,4,none⟩) Sd).trans HC5.out))⟩
                 case measure=>simp [RowKit.intOf];omega
               ·obtain rfl:k3=x9:=by omega
                have HEx3:=Hq ((HEr.out.trans (congrArg (fun z=>Rx.bind z (mqy l x2 x3 ks1 x5 x6 x7 ks2)) (show _=Except.ok (ks3,sr3) by rw [Nat.sub_self];exact dq7))).trans (Rx.bind_ok _ _ _))
                have HR3:=Hq (aqs HOr.out (fun g=>w.heap.size+2≤g) Om (by have:=HKL.out;omega) (fun q hq=>by have:=(HOr.out.lt q hq).1;omega))
                obtain⟨Ap3,cp3,hpv⟩:=aq7 HOr.out
                subst hpv
                clear hlt HOr HEr
                have HRP2:=Hq (HKr.out.slat HRP2.out)
                have HR2:=Hq (HKr.out.slat HR2.out)
                have HKr:=Hq (Kp.refl (w.heap.size+2) wr3)
                go_wp2_with (go_at_call 119;refine(dqT r A cap 64 l sr3 _ (H0.out.keepB HSr.out Bq9) Om).mono ?_;refine aqa ?_)
                refine aqb ?_
                intro e w10 hq
                rcases hq.cases with⟨a,er,hp,hb,rfl⟩ | ⟨x10,s10,v,hp,hb,rfl,⟨rfl,hn10⟩,hs⟩
                ·have HP:=Hq (HEx3.out.trans (aqg hp))
                 clear hp
                 have HA:=Hq (aqW HAr.out Bq9 hb.but)
                 clear hb
                 go_wp2_with fail
                 exact(show _∧_ from⟨rfl,aqG HP.out HA.out⟩)
                ·have HE10:=Hq (HEx3.out.trans (aqi hp))
                 have hpx:=hp
                 clear hp
                 have HA10:=Hq (aqW HAr.out Bq9 hb.but)
                 have HK10:=Hq (HKr.out.step hb.but Om trivial)
                 have HC10:=Hq (hb.c4.trans HCr.out)
                 have HS10:=Hq hs
                 have hz10:=hb.but.size
                 try simp at hz10
                 have hy10:=HA10.out.size
                 have X10_b:=Hq (Xb.out.but hb.but (aqk Om))
                 have X10_c:=Hq (Xc.out.but hb.but (aqk Om))
                 clear hb hs Xc Xb
                 have HPL10:=Hq ((cqM _ _ _ _ _ hpx).trans HPLr.out)
                 clear hpx
                 have HRP2:=Hq (HK10.out.slat HRP2.out)
                 have HR2:=Hq (HK10.out.slat HR2.out)
                 have HR3:=Hq (HK10.out.slat HR3.out)
                 have HOW:=Hq (World.ownsRow_nil w10 w10.heap.size 91 8)
                 have HKW:=Hq (Kp.refl (w.heap.size+2) w10)
                 have hbase4:w.heap.size+2≤w10.heap.size:=by omega
                 go_wp2_with fail
                 go_loopw [80] (fun i wr4=> ∃(k:Nat) (sr:Rs) (ks:List (aqr×Value×Value)) (pv:Value),k≤x10∧i= .int .i64 k∧ks.length=k∧Hid (But w.heap.size [r] w wr4)∧Hid (aq2 wr4 r A cap l sr)∧Hid (sr.pool=ks1)∧Hid (Bx wr4 (w.heap.size+1) [.int .i64 x2, .int .i64 x3, .slice Ap1 ks1.length cp1, .int .i64 x5, .int .i64 x6, .int .i64 x7, .slice Ap2 ks2.length cp2, .slice Ap3 ks3.length cp3,pv] 58)∧Hid (Bx wr4 w.heap.size [.int .i64 0, .int .i64 0, .slice none 0 0, .int .i64 0, .int .i64 0, .int .i64 0, .slice none 0 0, .slice none 0 0, .slice none 0 0] 58)∧Hid (wr4.ownsRow w10.heap.size 91 8 pv ks.length (bqs ks))∧Hid (bqP l st=Rx.bind (Rx.pre (ks.map (·.1)) (bqO (cq5 l) (x10 - k) sr)) (mqx l x2 x3 ks1 x5 x6 x7 ks2 ks3))∧Hid (Kp (w.heap.size+2) w10 wr4)∧Hid (wr4.cell? ⟨r,4,none⟩=some (.slice Ap1 ks1.length cp1))∧Hid (∀q∈ks,aqO wr4 (fun g=>w.heap.size+2≤g∧pv.ownBlock≠some g) q.1 q.2.1 q.2.2)) (fun i _=>x10 - (RowKit.intOf i).toNat)
                 case atStart=>exact⟨0,s10, [], .slice none 0 0,by omega,rfl,rfl,HA10,HS10,HPL10,X10_c,X10_b,HOW,Hq (by simp only [List.map_nil];rw [Rx.pre_nil];exact HE10.out),HKW,HC10,Hq (fun q hq=>by cases hq)⟩
                 case round=>
                  obtain⟨wr4,hwr⟩: ∃W,W=wr:=⟨_,rfl⟩
                  subst hwr
                  obtain⟨k4,sr4,ks4,pv4,hk4,rfl,hkl,HAr,HSr,HPLr,Xc,Xb,HOr,HEr,HKr,HCr,HMr⟩:=hrel
                  have hyr4:=HKr.out.size
                  have HKL:=Hq hkl
                  clear hkl
                  have e_cr4: ¬w.heap.size+1=r:=by omega
                  by_cases hlt:k4<x10
                  ·have HMK:=Hq (show x10 - k4=(x10 - (k4+1))+1 by omega)
                   have c_c:=Xc.out.cell 8 rfl
                   have z_c:=Xc.out.frozen 8
                   have HPP:=Hq (show eqA wr4 r (fun g=>w.heap.size+2≤g) sr4.pool by rw [HPLr.out];exact⟨_,HCr.out,HKr.out.slat HRP2.out⟩)
                   go_wp2_with fail
                   go_region_law (first
 | (refine aq6 rfl (.tmp 83) (.tmp 86) 56 rfl Tryz.underlying56 eqr rfl Om w10.heap.size rfl (HO5.out.alloc _) rfl rfl (aq3 _ _ _) Oc Om (by have:=HKL.out;simp only [maxLen];omega) (by have:=HKL.out;omega) Sd ?_
    intro g6 cap6 W' ho hg hb hgg
    have X6:=Hq ((Xc5.out.below (Rf9.alloc Nr _) Xc5.out.lt).below hb Om)
    have B6:=Hq ((Xb5.out.below (Rf9.alloc Nr _) Xb5.out.lt).below hb Om)
    have HO6:=Hq ho
    have HL6:=Hq (((Below.refl w10.heap.size wq).alloc Om _).trans hb)
    have hge6:=(ho.lt g6 rfl).1
    have c_6:=X6.out.cell 8 rfl
    have z_6:=X6.out.frozen 8
    have hz6:=hb.size
    have HM6:=Hq (fqx (n:=ks4.length+1) (c:=cap6) HM5.out hg (fun q hq=> (HO5.out.lt q hq).2) hgg)
    clear ho hg hb hgg)
 | (go_simp;go_at_call 122;go_loud (
    refine(HM r A cap l sr4 _ (fun g=>w.heap.size+2≤g) (fun g hg=>by omega) (H0.out.keepB HSr.out Bq9) (HPP.out.low Om Bq9)).mono ?_
    intro e wq hq
    rcases hq.cases with⟨a,er,hp,hb5,rfl⟩ | ⟨xq,sq,v,hp,hb5,rfl,⟨code,traps,rfl,hme⟩,hs⟩
    (have HP:=Hq (HEr.out.trans (aqg (by rw [HMK.out];exact dqR hp)));have HA:=Hq (aqW HAr.out Bq9 hb5.but);clear hp hb5;exact(show _∧_ from⟨rfl,aqG HP.out HA.out⟩))
    simp only [bqL]
    obtain⟨Ac,cc,rfl,_⟩:=hme.hcode
    obtain⟨At,ct,rfl,_⟩:=hme.htraps
    have HE5:=Hq (HEr.out.trans (congrArg (fun z=>Rx.bind z (mqx l x2 x3 ks1 x5 x6 x7 ks2 ks3)) (show _=Rx.pre ((ks4.map (·.1))++ [xq]) (bqO (cq5 l) (x10 - (k4+1)) sq) by rw [HMK.out];exact dqQ hp)))
    have HPL5:=Hq ((jq1 _ _ _ _ hp).trans HPLr.out)
    have HA5:=Hq (aqW HAr.out Bq9 hb5.but)
    have HS5:=Hq hs
    have hz5:=hb5.but.size
    have hy5:wr4.heap.size≤wq.heap.size:=hz5
    have Xc5:=Hq ((Xc.out.below (Rf9.drew) Xc.out.lt).but hb5.but (aqk Om))
    have Xb5:=Hq ((Xb.out.below (Rf9.drew) Xb.out.lt).but hb5.but (aqk Om))
    have HK5:=Hq ((HKr.out.below (Rf9.drew)).step hb5.but Om trivial)
    have HC5:=Hq (hb5.c4.trans HCr.out)
    have HO5:=Hq (aqj HOr.out fun q hq=>hb5.but.block q (HOr.out.lt q hq).2 (aqk (by have:=(HOr.out.lt q hq).1;omega)))
    have HM5:=Hq (gqm HMr.out HOr.out Rf9.drew hb5.but Om Om hme)
    have c_5:=Xc5.out.cell 8 rfl
    have hlt5:w.heap.size+1<wq.heap.size:=by omega
    clear hp hb5 hs)))
                   all_goals go_wp2_with fail
                   all_goals
                    go_roundw
                    case rel=>exact⟨k4+1,sq,ks4++ [(xq, .slice Ac xq.code.length cc, .slice At xq.traps.length ct)],_,by omega,by go_num,by simp [HKL.out],Hq (HA5.out.below_trans ((HL6.out.mono Om).setCell Sp _)),Hq (H0.out.keepB HS5.out ((HL6.out.mono Om).setCell Sp _)),HPL5,Hq (X6.out.set 8 _),Hq (B6.out.set_other _ _ Sp),Hq (aqF (bqQ HO6.out Sd _) Sp (by simp [bqs,aqr.cells])),Hq (by rw [List.map_append];exact HE5.out),Hq ((HK5.out.below (HL6.out.mono Nr)).set _ _ Sp),Hq ((World.cell?_setCell_other _ _ _ _ Fx9).trans ((HL6.out.cell (p:=⟨r,4,none⟩) Sd).trans HC5.out)),Hq (hqh HM6.out _ _ Fx9)⟩
                    case measure=>simp [RowKit.intOf];omega
                  ·obtain rfl:k4=x10:=by omega
                   have HEx4:=Hq ((HEr.out.trans (congrArg (fun z=>Rx.bind z (mqx l x2 x3 ks1 x5 x6 x7 ks2 ks3)) (show _=Except.ok ((ks4.map (·.1)),sr4) by rw [Nat.sub_self];exact dq7))).trans (Rx.bind_ok _ _ _))
                   have HR4:=Hq (aqs HOr.out (fun g=>w.heap.size+2≤g) Om (by have:=HKL.out;omega) (fun q hq=>by have:=(HOr.out.lt q hq).1;omega))
                   have HME:=Hq (fun q hq=>kqU (HMr.out q hq))
                   obtain⟨Ap4,cp4,hpv⟩:=aq7 HOr.out
                   subst hpv
                   clear hlt HOr HEr HMr
                   have HRP2:=Hq (HKr.out.slat HRP2.out)
                   have HR2:=Hq (HKr.out.slat HR2.out)
                   have HR3:=Hq (HKr.out.slat HR3.out)
                   have HKr:=Hq (Kp.refl (w.heap.size+2) wr4)
                   have HPP:=Hq (show eqA wr4 r (fun g=>w.heap.size+2≤g) sr4.pool by rw [HPLr.out];exact⟨_,HCr.out,HRP2.out⟩)
                   go_wp2_with (go_at_call 123;refine(jqs r A cap l sr4 _ (fun g=>w.heap.size+2≤g) (fun g hg=>by omega) (H0.out.keepB HSr.out Bq9) (HPP.out.low Om Bq9)).mono ?_;refine aqa ?_)
                   refine aqb ?_
                   intro e w11 hq
                   rcases hq.cases with⟨a,er,hp,hb,rfl⟩ | ⟨x11,s11,v,hp,hb,rfl,rfl,hs⟩
                   ·have HP:=Hq (HEx4.out.trans (aqg hp))
                    clear hp
                    have HA:=Hq (aqW HAr.out Bq9 hb.but)
                    clear hb
                    go_wp2_with fail
                    exact(show _∧_ from⟨rfl,aqG HP.out HA.out⟩)
                   have HE11:=Hq (HEx4.out.trans (aqi hp))
                   have hpx:=hp
                   clear hp
                   have HA11:=Hq (aqW HAr.out Bq9 hb.but)
                   have HK11:=Hq (HKr.out.step hb.but Om trivial)
                   have HC11:=Hq (hb.c4.trans HCr.out)
                   have HS11:=Hq hs
                   have hz11:=hb.but.size
                   try simp at hz11
                   have hy11:=HA11.out.size
                   have X11_b:=Hq (Xb.out.but hb.but (aqk Om))
                   have X11_c:=Hq (Xc.out.but hb.but (aqk Om))
                   clear hb hs Xc Xb
                   clear hpx
                   have HRP2:=Hq (HK11.out.slat HRP2.out)
                   have HR2:=Hq (HK11.out.slat HR2.out)
                   have HR3:=Hq (HK11.out.slat HR3.out)
                   have HR4:=Hq (HK11.out.slat HR4.out)
                   have HME:=Hq (fun q hq=>HK11.out.meth (HME.out q hq))
                   have c_q0:=HS11.out.c0
                   have c_q1:=HS11.out.c1
                   by_cases tf:s11.pos<l.length
                   ·have HE11:=Hq (HE11.out.trans (if_pos tf))
                    go_wp2_with fail
                    go_quiet (fail)
                    go_wp2_with (go_at_call 118;refine(bqe _ _ _ _).mono ?_;rintro e w9 ⟨rfl,rfl⟩)
                    exact(show _∧_ from⟨rfl,aqG HE11.out (HA11.out.below_trans Bq9)⟩)
                   have HE11:=Hq (HE11.out.trans (if_neg tf))
                   go_wp2_with fail
                   go_quiet (fail)
                   go_wp2_with (first| (refine wpList_load_row rfl _ _ rfl (w.heap.size+1) rfl _ _ _ _ ((X11_c.out.below (below_drewN Rf9 _) X11_c.out.lt)) Tryz.underlying58 rfl Kq9 ?_) | (refine wpList_store_row rfl _ _ _ rfl w.heap.size _ rfl rfl _ _ ((X11_b.out.below (below_drewN Rf9 _) X11_b.out.lt)) Kq9 rfl Oc ?_))
                   refine bodyPost_ret (v:= .agg #[.int .i64 x2, .int .i64 x3, .slice Ap1 ks1.length cp1, .int .i64 x5, .int .i64 x6, .int .i64 x7, .slice Ap2 ks2.length cp2, .slice Ap3 ks3.length cp3, .slice Ap4 ks4.length cp4]) (eqs rfl rfl ((X11_b.out.below (below_drewN Rf9 _) X11_b.out.lt).row [.int .i64 x2, .int .i64 x3, .slice Ap1 ks1.length cp1, .int .i64 x5, .int .i64 x6, .int .i64 x7, .slice Ap2 ks2.length cp2, .slice Ap3 ks3.length cp3, .slice Ap4 ks4.length cp4]) Tryz.underlying58 rfl Kq9) rfl ?_
                   exact mqF HE11.out (HA11.out.below_trans (below_setRow (below_drewN Rf9 _) Nr _)) (mqE ((Kp.below (Kp.refl _ _) (below_drewN Rf9 _)).row Sp _) Om HRP2.out HR2.out HR3.out HR4.out HME.out)
end Go.Proofs.YtdbniocnjhfhdaaGreatDoor
