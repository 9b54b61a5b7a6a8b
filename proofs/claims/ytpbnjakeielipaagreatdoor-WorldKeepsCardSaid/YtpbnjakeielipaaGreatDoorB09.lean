/-
  What the laws rest on, part 9: walks of the program's functions and plain laws. Conditions: none but those that each theorem names.
-/
import Derived.Test.YtpbnjakeielipaaGreatDoorB03
set_option linter.unusedSimpArgs false
set_option linter.unusedVariables false
set_option maxRecDepth 100000
set_option maxHeartbeats 6000000
namespace Go.Proofs.YtpbnjakeielipaaGreatDoor
open Go Go.RowKit Lib
theorem clsread_any (HF:FieldC) (HM:MethodC) (r:Nat) (A:Option Addr) (cap:Nat) (l:List UInt8) (st:Rs) (w:World) (h:RdrAt w r A cap l st) (v4:Value) (hc4:w.cell? ⟨r,4,none⟩=some v4):
  Calls Tryz.prog 110 #[.pointer (some ⟨r,0,none⟩)] w (CPost w r (classP l st)):=by
 have d1:=h.c1
 have hr:=h.lt
 have H0:=Lib.hid h
 have HC0:=Lib.hid hc4
 have HA0:=Lib.hid (But.refl w.heap.size [r] w)
 have HE0:=Lib.hid (show classP l st=Rx.bind (numP l 4 st) _ from rfl)
 have hlenL:=h.len
 clear h hc4
 go_enter Tryz.func110,Tryz.ntmps110
 go_wp2_with (go_at_call 119;refine(number_any r A cap 4 l st _ (H0.out.keepB H0.out (by repeat' (first|with_reducible exact Below.refl _ _|with_reducible refine below_drewN ?_ _|with_reducible refine Below.drew ?_|with_reducible refine Below.setCell ?_ ?_ _|with_reducible refine Below.alloc ?_ ?_ _|omega| (simp;done) | (simp;omega)))) (by omega)).mono ?_;refine stop_here ?_)
 refine go_on ?_
 intro e w1 hq
 rcases hq.cases with⟨a,er,hp,hb,rfl⟩ | ⟨x1,s1,v,hp,hb,rfl,⟨rfl,hn1⟩,hs⟩
 ·have HP:=Lib.hid (HE0.out.trans (bind_stop hp))
  clear hp
  have HA:=Lib.hid (hb_step HA0.out (by repeat' (first|with_reducible exact Below.refl _ _|with_reducible refine below_drewN ?_ _|with_reducible refine Below.drew ?_|with_reducible refine Below.setCell ?_ ?_ _|with_reducible refine Below.alloc ?_ ?_ _|omega| (simp;done) | (simp;omega))) hb.but)
  clear hb
  go_wp2_with fail
  exact(show _∧_ from⟨rfl,cpost_error HP.out HA.out⟩)
 ·have HE1:=Lib.hid (HE0.out.trans (bind_step hp))
  clear hp
  have HA1:=Lib.hid (hb_step HA0.out (by repeat' (first|with_reducible exact Below.refl _ _|with_reducible refine below_drewN ?_ _|with_reducible refine Below.drew ?_|with_reducible refine Below.setCell ?_ ?_ _|with_reducible refine Below.alloc ?_ ?_ _|omega| (simp;done) | (simp;omega))) hb.but)
  have HC1:=Lib.hid (hb.c4.trans ((World.cell?_alloc_lt _ _ _ (by first| (simp;done) | (simp;omega) |omega)).trans ((World.cell?_alloc_lt _ _ _ (by first| (simp;done) | (simp;omega) |omega)).trans HC0.out)))
  have HS1:=Lib.hid hs
  have hz1:=hb.but.size
  try simp at hz1
  have hy1:=HA1.out.size
  have e_br: ¬w.heap.size=r:=by omega
  have e_br': ¬r=w.heap.size:=by omega
  have e_cr: ¬w.heap.size+1=r:=by omega
  have e_cr': ¬r=w.heap.size+1:=by omega
  have e_cb: ¬w.heap.size+1=w.heap.size:=by omega
  have e_cb': ¬w.heap.size=w.heap.size+1:=by omega
  have X1_b:=Lib.hid (((bx_new_at _ [.int .i64 0, .int .i64 0, .slice none 0 0, .int .i64 0, .int .i64 0, .int .i64 0, .slice none 0 0, .slice none 0 0, .slice none 0 0] 104 (w.heap.size) (by simp)).below ((Below.refl _ _).alloc (Nat.le_refl _) _) (bx_new_at _ [.int .i64 0, .int .i64 0, .slice none 0 0, .int .i64 0, .int .i64 0, .int .i64 0, .slice none 0 0, .slice none 0 0, .slice none 0 0] 104 (w.heap.size) (by simp)).lt).but hb.but (ne_one (by omega)))
  have X1_c:=Lib.hid ((bx_new_at _ [.int .i64 0, .int .i64 0, .slice none 0 0, .int .i64 0, .int .i64 0, .int .i64 0, .slice none 0 0, .slice none 0 0, .slice none 0 0] 104 (w.heap.size+1) (by simp)).but hb.but (ne_one (by omega)))
  clear hb hs
  by_cases t1:x1≠3405691582
  ·have HE1:=Lib.hid (HE1.out.trans (if_pos t1))
   have tb:((x1:Int) !=3405691582)=true:=by simp;omega
   go_wp2_with (go_at_call 120;refine(wrong_any _ _ _ _).mono ?_;rintro e w9 ⟨rfl,rfl⟩)
   exact(show _∧_ from⟨rfl,cpost_error HE1.out (HA1.out.below_trans (by repeat' (first|with_reducible exact Below.refl _ _|with_reducible refine below_drewN ?_ _|with_reducible refine Below.drew ?_|with_reducible refine Below.setCell ?_ ?_ _|with_reducible refine Below.alloc ?_ ?_ _|omega| (simp;done) | (simp;omega))))⟩)
  have HE1:=Lib.hid (HE1.out.trans (if_neg t1))
  have tm:((x1:Int) !=3405691582)=false:=by simp;omega
  go_wp2_with (go_at_call 119;refine(number_any r A cap 2 l s1 _ (H0.out.keepB HS1.out (by repeat' (first|with_reducible exact Below.refl _ _|with_reducible refine below_drewN ?_ _|with_reducible refine Below.drew ?_|with_reducible refine Below.setCell ?_ ?_ _|with_reducible refine Below.alloc ?_ ?_ _|omega| (simp;done) | (simp;omega)))) (by omega)).mono ?_;refine stop_here ?_)
  refine go_on ?_
  intro e w2 hq
  rcases hq.cases with⟨a,er,hp,hb,rfl⟩ | ⟨x2,s2,v,hp,hb,rfl,⟨rfl,hn2⟩,hs⟩
  ·have HP:=Lib.hid (HE1.out.trans (bind_stop hp))
   clear hp
   have HA:=Lib.hid (hb_step HA1.out (by repeat' (first|with_reducible exact Below.refl _ _|with_reducible refine below_drewN ?_ _|with_reducible refine Below.drew ?_|with_reducible refine Below.setCell ?_ ?_ _|with_reducible refine Below.alloc ?_ ?_ _|omega| (simp;done) | (simp;omega))) hb.but)
   clear hb
   go_wp2_with fail
   exact(show _∧_ from⟨rfl,cpost_error HP.out HA.out⟩)
  ·have HE2:=Lib.hid (HE1.out.trans (bind_step hp))
   clear hp
   have HA2:=Lib.hid (hb_step HA1.out (by repeat' (first|with_reducible exact Below.refl _ _|with_reducible refine below_drewN ?_ _|with_reducible refine Below.drew ?_|with_reducible refine Below.setCell ?_ ?_ _|with_reducible refine Below.alloc ?_ ?_ _|omega| (simp;done) | (simp;omega))) hb.but)
   have HC2:=Lib.hid (hb.c4.trans HC1.out)
   have HS2:=Lib.hid hs
   have hz2:=hb.but.size
   try simp at hz2
   have hy2:=HA2.out.size
   have X2_b:=Lib.hid (X1_b.out.but hb.but (ne_one (by omega)))
   have X2_c:=Lib.hid (X1_c.out.but hb.but (ne_one (by omega)))
   clear hb hs X1_b X1_c
   go_wp2_with (go_at_call 119;refine(number_any r A cap 2 l s2 _ (H0.out.keepB HS2.out (by repeat' (first|with_reducible exact Below.refl _ _|with_reducible refine below_drewN ?_ _|with_reducible refine Below.drew ?_|with_reducible refine Below.setCell ?_ ?_ _|with_reducible refine Below.alloc ?_ ?_ _|omega| (simp;done) | (simp;omega)))) (by omega)).mono ?_;refine stop_here ?_)
   refine go_on ?_
   intro e w3 hq
   rcases hq.cases with⟨a,er,hp,hb,rfl⟩ | ⟨x3,s3,v,hp,hb,rfl,⟨rfl,hn3⟩,hs⟩
   ·have HP:=Lib.hid (HE2.out.trans (bind_stop hp))
    clear hp
    have HA:=Lib.hid (hb_step HA2.out (by repeat' (first|with_reducible exact Below.refl _ _|with_reducible refine below_drewN ?_ _|with_reducible refine Below.drew ?_|with_reducible refine Below.setCell ?_ ?_ _|with_reducible refine Below.alloc ?_ ?_ _|omega| (simp;done) | (simp;omega))) hb.but)
    clear hb
    go_wp2_with fail
    exact(show _∧_ from⟨rfl,cpost_error HP.out HA.out⟩)
   ·have HE3:=Lib.hid (HE2.out.trans (bind_step hp))
    clear hp
    have HA3:=Lib.hid (hb_step HA2.out (by repeat' (first|with_reducible exact Below.refl _ _|with_reducible refine below_drewN ?_ _|with_reducible refine Below.drew ?_|with_reducible refine Below.setCell ?_ ?_ _|with_reducible refine Below.alloc ?_ ?_ _|omega| (simp;done) | (simp;omega))) hb.but)
    have HC3:=Lib.hid (hb.c4.trans HC2.out)
    have HS3:=Lib.hid hs
    have hz3:=hb.but.size
    try simp at hz3
    have hy3:=HA3.out.size
    have X3_b:=Lib.hid (X2_b.out.but hb.but (ne_one (by omega)))
    have X3_c:=Lib.hid (X2_c.out.but hb.but (ne_one (by omega)))
    clear hb hs X2_b X2_c
    have c_c0:=X3_c.out.cell 0 rfl
    have z_c0:=X3_c.out.frozen 0
    have c_c1:=X3_c.out.cell 1 rfl
    have z_c1:=X3_c.out.frozen 1
    have d3:=HS3.out.c1
    go_wp2_with (go_at_call 121;refine(count_any r A cap 1025 l s3 _ (H0.out.keepB HS3.out (by repeat' (first|with_reducible exact Below.refl _ _|with_reducible refine below_drewN ?_ _|with_reducible refine Below.drew ?_|with_reducible refine Below.setCell ?_ ?_ _|with_reducible refine Below.alloc ?_ ?_ _|omega| (simp;done) | (simp;omega)))) (by omega)).mono ?_;refine stop_here ?_)
    refine go_on ?_
    intro e w4 hq
    rcases hq.cases with⟨a,er,hp,hb,rfl⟩ | ⟨x4,s4,v,hp,hb,rfl,⟨rfl,hn4⟩,hs⟩
    ·have HP:=Lib.hid (HE3.out.trans (bind_stop hp))
     clear hp
     have HA:=Lib.hid (hb_step HA3.out (by repeat' (first|with_reducible exact Below.refl _ _|with_reducible refine below_drewN ?_ _|with_reducible refine Below.drew ?_|with_reducible refine Below.setCell ?_ ?_ _|with_reducible refine Below.alloc ?_ ?_ _|omega| (simp;done) | (simp;omega))) hb.but)
     clear hb
     go_wp2_with fail
     exact(show _∧_ from⟨rfl,cpost_error HP.out HA.out⟩)
    ·have HE4:=Lib.hid (HE3.out.trans (bind_step hp))
     clear hp
     have HA4:=Lib.hid (hb_step HA3.out (by repeat' (first|with_reducible exact Below.refl _ _|with_reducible refine below_drewN ?_ _|with_reducible refine Below.drew ?_|with_reducible refine Below.setCell ?_ ?_ _|with_reducible refine Below.alloc ?_ ?_ _|omega| (simp;done) | (simp;omega))) hb.but)
     have HC4:=Lib.hid (hb.c4.trans ((World.cell?_setCell_other _ _ _ _ (by first| (simp;done) | (simp;omega) |omega)).trans ((World.cell?_setCell_other _ _ _ _ (by first| (simp;done) | (simp;omega) |omega)).trans HC3.out)))
     have HS4:=Lib.hid hs
     have hz4:=hb.but.size
     try simp at hz4
     have hy4:=HA4.out.size
     have X4_b:=Lib.hid (((X3_b.out.set_other _ _ (by first| (simp;done) | (simp;omega) |omega)).set_other _ _ (by first| (simp;done) | (simp;omega) |omega)).but hb.but (ne_one (by omega)))
     have X4_c:=Lib.hid (((X3_c.out.set 0 (.int .i64 x2)).set 1 (.int .i64 x3)).but hb.but (ne_one (by omega)))
     clear hb hs X3_b X3_c
     clear d3
     clear c_c0 z_c0 c_c1 z_c1
     by_cases t4:x4=0
     ·have HE4:=Lib.hid (HE4.out.trans (if_pos t4))
      subst t4
      go_wp2_with (go_at_call 120;refine(wrong_any _ _ _ _).mono ?_;rintro e w9 ⟨rfl,rfl⟩)
      exact(show _∧_ from⟨rfl,cpost_error HE4.out (HA4.out.below_trans (by repeat' (first|with_reducible exact Below.refl _ _|with_reducible refine below_drewN ?_ _|with_reducible refine Below.drew ?_|with_reducible refine Below.setCell ?_ ?_ _|with_reducible refine Below.alloc ?_ ?_ _|omega| (simp;done) | (simp;omega))))⟩)
     have HE4:=Lib.hid (HE4.out.trans (if_neg t4))
     obtain⟨m,rfl⟩: ∃m,x4=m+1:=⟨x4 - 1,by omega⟩
     have tz:(((m+1:Nat):Int)==0)=false:=by simp;omega
     have tz2:((m:Int)+1==0)=false:=by simp;omega
     have HE4:=Lib.hid (show classP l st=Rx.bind (repP (koP l) m s4) (clsB l x2 x3) from HE4.out)
     clear t4
     have HOW:=Lib.hid (World.ownsRow_nil w4 w4.heap.size 81 5)
     have HKW:=Lib.hid (Kp.refl (w.heap.size+2) w4)
     have hbase1:w.heap.size+2≤w4.heap.size:=by omega
     go_wp2_with fail
     go_loopw [30] (fun i wr1=> ∃(k:Nat) (sr:Rs) (ks:List Ko) (pv:Value),k≤m∧i= .int .i64 k∧ks.length=k∧Hid (But w.heap.size [r] w wr1)∧Hid (RdrAt wr1 r A cap l sr)∧Hid (Bx wr1 (w.heap.size+1) [.int .i64 x2, .int .i64 x3,pv, .int .i64 0, .int .i64 0, .int .i64 0, .slice none 0 0, .slice none 0 0, .slice none 0 0] 104)∧Hid (Bx wr1 w.heap.size [.int .i64 0, .int .i64 0, .slice none 0 0, .int .i64 0, .int .i64 0, .int .i64 0, .slice none 0 0, .slice none 0 0, .slice none 0 0] 104)∧Hid (wr1.ownsRow w4.heap.size 81 5 pv ks.length (ks.flatMap Ko.cells))∧Hid (classP l st=Rx.bind (Rx.pre ks (repP (koP l) (m - k) sr)) (clsB l x2 x3))∧Hid (Kp (w.heap.size+2) w4 wr1)∧Hid (wr1.cell? ⟨r,4,none⟩=some v4)) (fun i _=>m - (RowKit.intOf i).toNat)
     case atStart=>exact⟨0,s4, [], .slice none 0 0,by omega,rfl,rfl,HA4,HS4,X4_c,X4_b,HOW,Lib.hid (by rw [Rx.pre_nil];exact HE4.out),HKW,HC4⟩
     case round=>
      obtain⟨wr1,hwr⟩: ∃W,W=wr:=⟨_,rfl⟩
      subst hwr
      obtain⟨k1,sr1,ks1,pv1,hk1,rfl,hkl,HAr,HSr,Xc,Xb,HOr,HEr,HKr,HCr⟩:=hrel
      have hyr1:=HKr.out.size
      have HKL:=Lib.hid hkl
      clear hkl
      have e_cr1: ¬w.heap.size+1=r:=by omega
      by_cases hlt:k1<m
      ·have HMK:=Lib.hid (show m - k1=(m - (k1+1))+1 by omega)
       have c_c:=Xc.out.cell 2 rfl
       have z_c:=Xc.out.frozen 2
       go_wp2_with fail
       go_region_law (first
 | (refine step_lies rfl (.tmp 33) (.tmp 36) 100 rfl Tryz.underlying100 info_const rfl (by omega) w4.heap.size rfl (HO5.out.alloc _) rfl rfl (cells_new _ _ _) (by simp [Value.oneCell']) (by omega) (by have:=HKL.out;simp only [maxLen];omega) (by have:=HKL.out;omega) (by simp;omega) ?_
    intro g6 cap6 W' ho hg hb hgg
    have X6:=Lib.hid ((Xc5.out.below ((Below.refl _ _).alloc (Nat.le_refl _) _) Xc5.out.lt).below hb (by omega))
    have B6:=Lib.hid ((Xb5.out.below ((Below.refl _ _).alloc (Nat.le_refl _) _) Xb5.out.lt).below hb (by omega))
    have HO6:=Lib.hid ho
    have HL6:=Lib.hid (((Below.refl w4.heap.size wq).alloc (by omega) _).trans hb)
    have hge6:=(ho.lt g6 rfl).1
    have c_6:=X6.out.cell 2 rfl
    have z_6:=X6.out.frozen 2
    have hz6:=hb.size
    skip
    clear ho hg hb hgg)
 | (go_simp;go_at_call 122;go_loud (
    refine(constant_any r A cap l sr1 _ (H0.out.keepB HSr.out (by repeat' (first|with_reducible exact Below.refl _ _|with_reducible refine below_drewN ?_ _|with_reducible refine Below.drew ?_|with_reducible refine Below.setCell ?_ ?_ _|with_reducible refine Below.alloc ?_ ?_ _|omega| (simp;done) | (simp;omega))))).mono ?_
    intro e wq hq
    rcases hq.cases with⟨a,er,hp,hb5,rfl⟩ | ⟨xq,sq,v,hp,hb5,rfl,rfl,hs⟩
    (have HP:=Lib.hid (HEr.out.trans (bind_stop (by rw [HMK.out];exact repP_stop hp)));have HA:=Lib.hid (hb_step HAr.out (by repeat' (first|with_reducible exact Below.refl _ _|with_reducible refine below_drewN ?_ _|with_reducible refine Below.drew ?_|with_reducible refine Below.setCell ?_ ?_ _|with_reducible refine Below.alloc ?_ ?_ _|omega| (simp;done) | (simp;omega))) hb5.but);clear hp hb5;exact(show _∧_ from⟨rfl,cpost_error HP.out HA.out⟩))
    simp only [koV]
    have HE5:=Lib.hid (HEr.out.trans (congrArg (fun z=>Rx.bind z (clsB l x2 x3)) (show _=Rx.pre (ks1++ [xq]) (repP (koP l) (m - (k1+1)) sq) by rw [HMK.out];exact repP_step hp)))
    skip
    have HA5:=Lib.hid (hb_step HAr.out (by repeat' (first|with_reducible exact Below.refl _ _|with_reducible refine below_drewN ?_ _|with_reducible refine Below.drew ?_|with_reducible refine Below.setCell ?_ ?_ _|with_reducible refine Below.alloc ?_ ?_ _|omega| (simp;done) | (simp;omega))) hb5.but)
    have HS5:=Lib.hid hs
    have hz5:=hb5.but.size
    have hy5:wr1.heap.size≤wq.heap.size:=hz5
    have Xc5:=Lib.hid ((Xc.out.below ((Below.refl _ _).drew) Xc.out.lt).but hb5.but (ne_one (by omega)))
    have Xb5:=Lib.hid ((Xb.out.below ((Below.refl _ _).drew) Xb.out.lt).but hb5.but (ne_one (by omega)))
    have HK5:=Lib.hid ((HKr.out.below ((Below.refl _ _).drew)).step hb5.but (by omega) trivial)
    have HC5:=Lib.hid (hb5.c4.trans HCr.out)
    have HO5:=Lib.hid (own_heap HOr.out fun q hq=>hb5.but.block q (HOr.out.lt q hq).2 (ne_one (by have:=(HOr.out.lt q hq).1;omega)))
    skip
    have c_5:=Xc5.out.cell 2 rfl
    have hlt5:w.heap.size+1<wq.heap.size:=by omega
    clear hp hb5 hs)))
       all_goals go_wp2_with fail
       all_goals
        go_roundw
        case rel=>exact⟨k1+1,sq,ks1++ [xq],_,by omega,by go_num,by simp [HKL.out],Lib.hid (HA5.out.below_trans ((HL6.out.mono (by omega)).setCell (by simp) _)),Lib.hid (H0.out.keepB HS5.out ((HL6.out.mono (by omega)).setCell (by simp) _)),Lib.hid (X6.out.set 2 _),Lib.hid (B6.out.set_other _ _ (by simp)),Lib.hid (own_eq (own_set HO6.out (by simp;omega) _) (by simp) (by simp [Ko.cells])),HE5,Lib.hid ((HK5.out.below (HL6.out.mono (Nat.le_refl _))).set _ _ (by simp)),Lib.hid ((World.cell?_setCell_other _ _ _ _ (by first| (simp;done) | (simp;omega) |omega)).trans ((HL6.out.cell (p:=⟨r,4,none⟩) (by simp;omega)).trans HC5.out))⟩
        case measure=>simp [RowKit.intOf];omega
      ·obtain rfl:k1=m:=by omega
       have HEx1:=Lib.hid ((HEr.out.trans (congrArg (fun z=>Rx.bind z (clsB l x2 x3)) (show _=Except.ok (ks1,sr1) by rw [Nat.sub_self];exact repP_end))).trans (Rx.bind_ok _ _ _))
       have HR1:=Lib.hid (slAt_own HOr.out (fun g=>w.heap.size+2≤g) (by omega) (by have:=HKL.out;omega) (fun q hq=>by have:=(HOr.out.lt q hq).1;omega))
       obtain⟨Ap1,cp1,hpv⟩:=own_slice HOr.out
       subst hpv
       clear hlt HOr HEr
       have z_r4:=HSr.out.fz 4
       have hrr:=HSr.out.lt
       have c_r4:=HCr.out
       have c_cp:=Xc.out.cell 2 rfl
       have HSP:=Lib.hid (rdr_pool HSr.out ks1 (.slice Ap1 ks1.length cp1))
       have HAP:=Lib.hid (HAr.out.set ⟨r,4,none⟩ (.inl (by simp)) (.slice Ap1 ks1.length cp1))
       have HKP:=Lib.hid ((Kp.refl (w.heap.size+2) wr1).set ⟨r,4,none⟩ (.slice Ap1 ks1.length cp1) (by simp;omega))
       have HCP:=Lib.hid (World.cell?_setCell_same _ _ (.slice Ap1 ks1.length cp1) HCr.out)
       have XcP:=Lib.hid (Xc.out.set_other ⟨r,4,none⟩ (.slice Ap1 ks1.length cp1) (by simp;omega))
       have XbP:=Lib.hid (Xb.out.set_other ⟨r,4,none⟩ (.slice Ap1 ks1.length cp1) (by simp;omega))
       have HEP:=Lib.hid (show classP l st=Rx.bind (numP l 2 { sr1 with pool:=ks1 }) _ from HEx1.out)
       have hyP:w.heap.size+2≤(wr1.setCell ⟨r,4,none⟩ (.slice Ap1 ks1.length cp1)).heap.size:=by simp;omega
       have hyP2:wr1.heap.size≤(wr1.setCell ⟨r,4,none⟩ (.slice Ap1 ks1.length cp1)).heap.size:=by simp
       clear HSr HAr Xc Xb HKr
       go_wp2_with fail
       generalize wr1.setCell ⟨r,4,none⟩ (.slice Ap1 ks1.length cp1)=wP at*
       clear z_r4 hrr c_r4 HCr
       have c_cp:=XcP.out.cell 2 rfl
       go_wp2_with (go_at_call 119;refine(number_any r A cap 2 l { sr1 with pool:=ks1 } _ (H0.out.keepB HSP.out (by repeat' (first|with_reducible exact Below.refl _ _|with_reducible refine below_drewN ?_ _|with_reducible refine Below.drew ?_|with_reducible refine Below.setCell ?_ ?_ _|with_reducible refine Below.alloc ?_ ?_ _|omega| (simp;done) | (simp;omega)))) (by omega)).mono ?_;refine stop_here ?_)
       refine go_on ?_
       intro e w5 hq
       rcases hq.cases with⟨a,er,hp,hb,rfl⟩ | ⟨x5,s5,v,hp,hb,rfl,⟨rfl,hn5⟩,hs⟩
       ·have HP:=Lib.hid (HEP.out.trans (bind_stop hp))
        clear hp
        have HA:=Lib.hid (hb_step HAP.out (by repeat' (first|with_reducible exact Below.refl _ _|with_reducible refine below_drewN ?_ _|with_reducible refine Below.drew ?_|with_reducible refine Below.setCell ?_ ?_ _|with_reducible refine Below.alloc ?_ ?_ _|omega| (simp;done) | (simp;omega))) hb.but)
        clear hb
        go_wp2_with fail
        exact(show _∧_ from⟨rfl,cpost_error HP.out HA.out⟩)
       ·have HE5:=Lib.hid (HEP.out.trans (bind_step hp))
        have hpx:=hp
        clear hp
        have HA5:=Lib.hid (hb_step HAP.out (by repeat' (first|with_reducible exact Below.refl _ _|with_reducible refine below_drewN ?_ _|with_reducible refine Below.drew ?_|with_reducible refine Below.setCell ?_ ?_ _|with_reducible refine Below.alloc ?_ ?_ _|omega| (simp;done) | (simp;omega))) hb.but)
        have HK5:=Lib.hid (HKP.out.step hb.but (by omega) trivial)
        have HC5:=Lib.hid (hb.c4.trans HCP.out)
        have HS5:=Lib.hid hs
        have hz5:=hb.but.size
        try simp at hz5
        have hy5:=HA5.out.size
        have X5_b:=Lib.hid (XbP.out.but hb.but (ne_one (by omega)))
        have X5_c:=Lib.hid (XcP.out.but hb.but (ne_one (by omega)))
        clear hb hs XcP XbP
        have HPL5:=Lib.hid (show s5.pool=ks1 from keeps_num _ _ _ _ _ hpx)
        clear hpx
        go_wp2_with (go_at_call 119;refine(number_any r A cap 2 l s5 _ (H0.out.keepB HS5.out (by repeat' (first|with_reducible exact Below.refl _ _|with_reducible refine below_drewN ?_ _|with_reducible refine Below.drew ?_|with_reducible refine Below.setCell ?_ ?_ _|with_reducible refine Below.alloc ?_ ?_ _|omega| (simp;done) | (simp;omega)))) (by omega)).mono ?_;refine stop_here ?_)
        refine go_on ?_
        intro e w6 hq
        rcases hq.cases with⟨a,er,hp,hb,rfl⟩ | ⟨x6,s6,v,hp,hb,rfl,⟨rfl,hn6⟩,hs⟩
        ·have HP:=Lib.hid (HE5.out.trans (bind_stop hp))
         clear hp
         have HA:=Lib.hid (hb_step HA5.out (by repeat' (first|with_reducible exact Below.refl _ _|with_reducible refine below_drewN ?_ _|with_reducible refine Below.drew ?_|with_reducible refine Below.setCell ?_ ?_ _|with_reducible refine Below.alloc ?_ ?_ _|omega| (simp;done) | (simp;omega))) hb.but)
         clear hb
         go_wp2_with fail
         exact(show _∧_ from⟨rfl,cpost_error HP.out HA.out⟩)
        ·have HE6:=Lib.hid (HE5.out.trans (bind_step hp))
         have hpx:=hp
         clear hp
         have HA6:=Lib.hid (hb_step HA5.out (by repeat' (first|with_reducible exact Below.refl _ _|with_reducible refine below_drewN ?_ _|with_reducible refine Below.drew ?_|with_reducible refine Below.setCell ?_ ?_ _|with_reducible refine Below.alloc ?_ ?_ _|omega| (simp;done) | (simp;omega))) hb.but)
         have HK6:=Lib.hid (HK5.out.step hb.but (by omega) trivial)
         have HC6:=Lib.hid (hb.c4.trans HC5.out)
         have HS6:=Lib.hid hs
         have hz6:=hb.but.size
         try simp at hz6
         have hy6:=HA6.out.size
         have X6_b:=Lib.hid (X5_b.out.but hb.but (ne_one (by omega)))
         have X6_c:=Lib.hid (X5_c.out.but hb.but (ne_one (by omega)))
         clear hb hs X5_c X5_b
         have HPL6:=Lib.hid ((keeps_num _ _ _ _ _ hpx).trans HPL5.out)
         clear hpx
         go_wp2_with (go_at_call 119;refine(number_any r A cap 2 l s6 _ (H0.out.keepB HS6.out (by repeat' (first|with_reducible exact Below.refl _ _|with_reducible refine below_drewN ?_ _|with_reducible refine Below.drew ?_|with_reducible refine Below.setCell ?_ ?_ _|with_reducible refine Below.alloc ?_ ?_ _|omega| (simp;done) | (simp;omega)))) (by omega)).mono ?_;refine stop_here ?_)
         refine go_on ?_
         intro e w7 hq
         rcases hq.cases with⟨a,er,hp,hb,rfl⟩ | ⟨x7,s7,v,hp,hb,rfl,⟨rfl,hn7⟩,hs⟩
         ·have HP:=Lib.hid (HE6.out.trans (bind_stop hp))
          clear hp
          have HA:=Lib.hid (hb_step HA6.out (by repeat' (first|with_reducible exact Below.refl _ _|with_reducible refine below_drewN ?_ _|with_reducible refine Below.drew ?_|with_reducible refine Below.setCell ?_ ?_ _|with_reducible refine Below.alloc ?_ ?_ _|omega| (simp;done) | (simp;omega))) hb.but)
          clear hb
          go_wp2_with fail
          exact(show _∧_ from⟨rfl,cpost_error HP.out HA.out⟩)
         ·have HE7:=Lib.hid (HE6.out.trans (bind_step hp))
          have hpx:=hp
          clear hp
          have HA7:=Lib.hid (hb_step HA6.out (by repeat' (first|with_reducible exact Below.refl _ _|with_reducible refine below_drewN ?_ _|with_reducible refine Below.drew ?_|with_reducible refine Below.setCell ?_ ?_ _|with_reducible refine Below.alloc ?_ ?_ _|omega| (simp;done) | (simp;omega))) hb.but)
          have HK7:=Lib.hid (HK6.out.step hb.but (by omega) trivial)
          have HC7:=Lib.hid (hb.c4.trans HC6.out)
          have HS7:=Lib.hid hs
          have hz7:=hb.but.size
          try simp at hz7
          have hy7:=HA7.out.size
          have X7_b:=Lib.hid (X6_b.out.but hb.but (ne_one (by omega)))
          have X7_c:=Lib.hid (X6_c.out.but hb.but (ne_one (by omega)))
          clear hb hs X6_c X6_b
          have HPL7:=Lib.hid ((keeps_num _ _ _ _ _ hpx).trans HPL6.out)
          clear hpx
          have c_c3:=X7_c.out.cell 3 rfl
          have z_c3:=X7_c.out.frozen 3
          have c_c4:=X7_c.out.cell 4 rfl
          have z_c4:=X7_c.out.frozen 4
          have c_c5:=X7_c.out.cell 5 rfl
          have z_c5:=X7_c.out.frozen 5
          go_wp2_with (go_at_call 121;refine(count_any r A cap 64 l s7 _ (H0.out.keepB HS7.out (by repeat' (first|with_reducible exact Below.refl _ _|with_reducible refine below_drewN ?_ _|with_reducible refine Below.drew ?_|with_reducible refine Below.setCell ?_ ?_ _|with_reducible refine Below.alloc ?_ ?_ _|omega| (simp;done) | (simp;omega)))) (by omega)).mono ?_;refine stop_here ?_)
          refine go_on ?_
          intro e w8 hq
          rcases hq.cases with⟨a,er,hp,hb,rfl⟩ | ⟨x8,s8,v,hp,hb,rfl,⟨rfl,hn8⟩,hs⟩
          ·have HP:=Lib.hid (HE7.out.trans (bind_stop hp))
           clear hp
           have HA:=Lib.hid (hb_step HA7.out (by repeat' (first|with_reducible exact Below.refl _ _|with_reducible refine below_drewN ?_ _|with_reducible refine Below.drew ?_|with_reducible refine Below.setCell ?_ ?_ _|with_reducible refine Below.alloc ?_ ?_ _|omega| (simp;done) | (simp;omega))) hb.but)
           clear hb
           go_wp2_with fail
           exact(show _∧_ from⟨rfl,cpost_error HP.out HA.out⟩)
          ·have HE8:=Lib.hid (HE7.out.trans (bind_step hp))
           have hpx:=hp
           clear hp
           have HA8:=Lib.hid (hb_step HA7.out (by repeat' (first|with_reducible exact Below.refl _ _|with_reducible refine below_drewN ?_ _|with_reducible refine Below.drew ?_|with_reducible refine Below.setCell ?_ ?_ _|with_reducible refine Below.alloc ?_ ?_ _|omega| (simp;done) | (simp;omega))) hb.but)
           have HK8:=Lib.hid ((Lib.hid ((Lib.hid ((Lib.hid (HK7.out.set _ _ (by first| (simp;done) | (simp;omega) |omega))).out.set _ _ (by first| (simp;done) | (simp;omega) |omega))).out.set _ _ (by first| (simp;done) | (simp;omega) |omega))).out.step hb.but (by omega) trivial)
           have HC8:=Lib.hid (hb.c4.trans ((World.cell?_setCell_other _ _ _ _ (by first| (simp;done) | (simp;omega) |omega)).trans ((World.cell?_setCell_other _ _ _ _ (by first| (simp;done) | (simp;omega) |omega)).trans ((World.cell?_setCell_other _ _ _ _ (by first| (simp;done) | (simp;omega) |omega)).trans HC7.out))))
           have HS8:=Lib.hid hs
           have hz8:=hb.but.size
           try simp at hz8
           have hy8:=HA8.out.size
           have X8_b:=Lib.hid ((((X7_b.out.set_other _ _ (by first| (simp;done) | (simp;omega) |omega)).set_other _ _ (by first| (simp;done) | (simp;omega) |omega)).set_other _ _ (by first| (simp;done) | (simp;omega) |omega)).but hb.but (ne_one (by omega)))
           have X8_c:=Lib.hid ((((X7_c.out.set 3 (.int .i64 x5)).set 4 (.int .i64 x6)).set 5 (.int .i64 x7)).but hb.but (ne_one (by omega)))
           clear hb hs X7_c X7_b
           have HPL8:=Lib.hid ((keeps_count _ _ _ _ _ hpx).trans HPL7.out)
           clear hpx
           clear c_c3 z_c3 c_c4 z_c4 c_c5 z_c5
           have HRP2:=Lib.hid (HK8.out.slat HR1.out)
           clear HR1
           have HOW:=Lib.hid (World.ownsRow_nil w8 w8.heap.size 3 1)
           have HKW:=Lib.hid (Kp.refl (w.heap.size+2) w8)
           have hbase2:w.heap.size+2≤w8.heap.size:=by omega
           go_wp2_with fail
           go_loopw [56] (fun i wr2=> ∃(k:Nat) (sr:Rs) (ks:List Nat) (pv:Value),k≤x8∧i= .int .i64 k∧ks.length=k∧Hid (But w.heap.size [r] w wr2)∧Hid (RdrAt wr2 r A cap l sr)∧Hid (sr.pool=ks1)∧Hid (Bx wr2 (w.heap.size+1) [.int .i64 x2, .int .i64 x3, .slice Ap1 ks1.length cp1, .int .i64 x5, .int .i64 x6, .int .i64 x7,pv, .slice none 0 0, .slice none 0 0] 104)∧Hid (Bx wr2 w.heap.size [.int .i64 0, .int .i64 0, .slice none 0 0, .int .i64 0, .int .i64 0, .int .i64 0, .slice none 0 0, .slice none 0 0, .slice none 0 0] 104)∧Hid (wr2.ownsRow w8.heap.size 3 1 pv ks.length (ks.map fun n:Nat=>Value.int .i64 n))∧Hid (classP l st=Rx.bind (Rx.pre ks (repP (numP l 2) (x8 - k) sr)) (clsC l x2 x3 ks1 x5 x6 x7))∧Hid (Kp (w.heap.size+2) w8 wr2)∧Hid (wr2.cell? ⟨r,4,none⟩=some (.slice Ap1 ks1.length cp1))) (fun i _=>x8 - (RowKit.intOf i).toNat)
           case atStart=>exact⟨0,s8, [], .slice none 0 0,by omega,rfl,rfl,HA8,HS8,HPL8,X8_c,X8_b,HOW,Lib.hid (by rw [Rx.pre_nil];exact HE8.out),HKW,HC8⟩
           case round=>
            obtain⟨wr2,hwr⟩: ∃W,W=wr:=⟨_,rfl⟩
            subst hwr
            obtain⟨k2,sr2,ks2,pv2,hk2,rfl,hkl,HAr,HSr,HPLr,Xc,Xb,HOr,HEr,HKr,HCr⟩:=hrel
            have hyr2:=HKr.out.size
            have HKL:=Lib.hid hkl
            clear hkl
            have e_cr2: ¬w.heap.size+1=r:=by omega
            by_cases hlt:k2<x8
            ·have HMK:=Lib.hid (show x8 - k2=(x8 - (k2+1))+1 by omega)
             have c_c:=Xc.out.cell 6 rfl
             have z_c:=Xc.out.frozen 6
             go_wp2_with fail
             go_region_law (first
 | (refine step_lies rfl (.tmp 59) (.tmp 62) 32 rfl Tryz.underlying32 info_int rfl (by omega) w8.heap.size rfl (HO5.out.alloc _) rfl rfl (cells_new _ _ _) (by simp [Value.oneCell']) (by omega) (by have:=HKL.out;simp only [maxLen];omega) (by have:=HKL.out;omega) (by simp;omega) ?_
    intro g6 cap6 W' ho hg hb hgg
    have X6:=Lib.hid ((Xc5.out.below ((Below.refl _ _).alloc (Nat.le_refl _) _) Xc5.out.lt).below hb (by omega))
    have B6:=Lib.hid ((Xb5.out.below ((Below.refl _ _).alloc (Nat.le_refl _) _) Xb5.out.lt).below hb (by omega))
    have HO6:=Lib.hid ho
    have HL6:=Lib.hid (((Below.refl w8.heap.size wq).alloc (by omega) _).trans hb)
    have hge6:=(ho.lt g6 rfl).1
    have c_6:=X6.out.cell 6 rfl
    have z_6:=X6.out.frozen 6
    have hz6:=hb.size
    skip
    clear ho hg hb hgg)
 | (go_simp;go_at_call 119;go_loud (
    refine(number_any r A cap 2 l sr2 _ (H0.out.keepB HSr.out (by repeat' (first|with_reducible exact Below.refl _ _|with_reducible refine below_drewN ?_ _|with_reducible refine Below.drew ?_|with_reducible refine Below.setCell ?_ ?_ _|with_reducible refine Below.alloc ?_ ?_ _|omega| (simp;done) | (simp;omega)))) (by omega)).mono ?_
    intro e wq hq
    rcases hq.cases with⟨a,er,hp,hb5,rfl⟩ | ⟨xq,sq,v,hp,hb5,rfl,⟨rfl,hn5⟩,hs⟩
    (have HP:=Lib.hid (HEr.out.trans (bind_stop (by rw [HMK.out];exact repP_stop hp)));have HA:=Lib.hid (hb_step HAr.out (by repeat' (first|with_reducible exact Below.refl _ _|with_reducible refine below_drewN ?_ _|with_reducible refine Below.drew ?_|with_reducible refine Below.setCell ?_ ?_ _|with_reducible refine Below.alloc ?_ ?_ _|omega| (simp;done) | (simp;omega))) hb5.but);clear hp hb5;exact(show _∧_ from⟨rfl,cpost_error HP.out HA.out⟩))
    skip
    have HE5:=Lib.hid (HEr.out.trans (congrArg (fun z=>Rx.bind z (clsC l x2 x3 ks1 x5 x6 x7)) (show _=Rx.pre (ks2++ [xq]) (repP (numP l 2) (x8 - (k2+1)) sq) by rw [HMK.out];exact repP_step hp)))
    have HPL5:=Lib.hid ((keeps_num _ _ _ _ _ hp).trans HPLr.out)
    have HA5:=Lib.hid (hb_step HAr.out (by repeat' (first|with_reducible exact Below.refl _ _|with_reducible refine below_drewN ?_ _|with_reducible refine Below.drew ?_|with_reducible refine Below.setCell ?_ ?_ _|with_reducible refine Below.alloc ?_ ?_ _|omega| (simp;done) | (simp;omega))) hb5.but)
    have HS5:=Lib.hid hs
    have hz5:=hb5.but.size
    have hy5:wr2.heap.size≤wq.heap.size:=hz5
    have Xc5:=Lib.hid ((Xc.out.below ((Below.refl _ _).drew) Xc.out.lt).but hb5.but (ne_one (by omega)))
    have Xb5:=Lib.hid ((Xb.out.below ((Below.refl _ _).drew) Xb.out.lt).but hb5.but (ne_one (by omega)))
    have HK5:=Lib.hid ((HKr.out.below ((Below.refl _ _).drew)).step hb5.but (by omega) trivial)
    have HC5:=Lib.hid (hb5.c4.trans HCr.out)
    have HO5:=Lib.hid (own_heap HOr.out fun q hq=>hb5.but.block q (HOr.out.lt q hq).2 (ne_one (by have:=(HOr.out.lt q hq).1;omega)))
    skip
    have c_5:=Xc5.out.cell 6 rfl
    have hlt5:w.heap.size+1<wq.heap.size:=by omega
    clear hp hb5 hs)))
             all_goals go_wp2_with fail
             all_goals
              go_roundw
              case rel=>exact⟨k2+1,sq,ks2++ [xq],_,by omega,by go_num,by simp [HKL.out],Lib.hid (HA5.out.below_trans ((HL6.out.mono (by omega)).setCell (by simp) _)),Lib.hid (H0.out.keepB HS5.out ((HL6.out.mono (by omega)).setCell (by simp) _)),HPL5,Lib.hid (X6.out.set 6 _),Lib.hid (B6.out.set_other _ _ (by simp)),Lib.hid (own_eq (own_set HO6.out (by simp;omega) _) (by simp) (by simp [])),HE5,Lib.hid ((HK5.out.below (HL6.out.mono (Nat.le_refl _))).set _ _ (by simp)),Lib.hid ((World.cell?_setCell_other _ _ _ _ (by first| (simp;done) | (simp;omega) |omega)).trans ((HL6.out.cell (p:=⟨r,4,none⟩) (by simp;omega)).trans HC5.out))⟩
              case measure=>simp [RowKit.intOf];omega
            ·obtain rfl:k2=x8:=by omega
             have HEx2:=Lib.hid ((HEr.out.trans (congrArg (fun z=>Rx.bind z (clsC l x2 x3 ks1 x5 x6 x7)) (show _=Except.ok (ks2,sr2) by rw [Nat.sub_self];exact repP_end))).trans (Rx.bind_ok _ _ _))
             have HR2:=Lib.hid (slAt_own HOr.out (fun g=>w.heap.size+2≤g) (by omega) (by have:=HKL.out;omega) (fun q hq=>by have:=(HOr.out.lt q hq).1;omega))
             obtain⟨Ap2,cp2,hpv⟩:=own_slice HOr.out
             subst hpv
             clear hlt HOr HEr
             have HRP2:=Lib.hid (HKr.out.slat HRP2.out)
             have HKr:=Lib.hid (Kp.refl (w.heap.size+2) wr2)
             go_wp2_with (go_at_call 121;refine(count_any r A cap 64 l sr2 _ (H0.out.keepB HSr.out (by repeat' (first|with_reducible exact Below.refl _ _|with_reducible refine below_drewN ?_ _|with_reducible refine Below.drew ?_|with_reducible refine Below.setCell ?_ ?_ _|with_reducible refine Below.alloc ?_ ?_ _|omega| (simp;done) | (simp;omega)))) (by omega)).mono ?_;refine stop_here ?_)
             refine go_on ?_
             intro e w9 hq
             rcases hq.cases with⟨a,er,hp,hb,rfl⟩ | ⟨x9,s9,v,hp,hb,rfl,⟨rfl,hn9⟩,hs⟩
             ·have HP:=Lib.hid (HEx2.out.trans (bind_stop hp))
              clear hp
              have HA:=Lib.hid (hb_step HAr.out (by repeat' (first|with_reducible exact Below.refl _ _|with_reducible refine below_drewN ?_ _|with_reducible refine Below.drew ?_|with_reducible refine Below.setCell ?_ ?_ _|with_reducible refine Below.alloc ?_ ?_ _|omega| (simp;done) | (simp;omega))) hb.but)
              clear hb
              go_wp2_with fail
              exact(show _∧_ from⟨rfl,cpost_error HP.out HA.out⟩)
             ·have HE9:=Lib.hid (HEx2.out.trans (bind_step hp))
              have hpx:=hp
              clear hp
              have HA9:=Lib.hid (hb_step HAr.out (by repeat' (first|with_reducible exact Below.refl _ _|with_reducible refine below_drewN ?_ _|with_reducible refine Below.drew ?_|with_reducible refine Below.setCell ?_ ?_ _|with_reducible refine Below.alloc ?_ ?_ _|omega| (simp;done) | (simp;omega))) hb.but)
              have HK9:=Lib.hid (HKr.out.step hb.but (by omega) trivial)
              have HC9:=Lib.hid (hb.c4.trans HCr.out)
              have HS9:=Lib.hid hs
              have hz9:=hb.but.size
              try simp at hz9
              have hy9:=HA9.out.size
              have X9_b:=Lib.hid (Xb.out.but hb.but (ne_one (by omega)))
              have X9_c:=Lib.hid (Xc.out.but hb.but (ne_one (by omega)))
              clear hb hs Xc Xb
              have HPL9:=Lib.hid ((keeps_count _ _ _ _ _ hpx).trans HPLr.out)
              clear hpx
              have HRP2:=Lib.hid (HK9.out.slat HRP2.out)
              have HR2:=Lib.hid (HK9.out.slat HR2.out)
              have HOW:=Lib.hid (World.ownsRow_nil w9 w9.heap.size 168 4)
              have HKW:=Lib.hid (Kp.refl (w.heap.size+2) w9)
              have hbase3:w.heap.size+2≤w9.heap.size:=by omega
              go_wp2_with fail
              go_loopw [68] (fun i wr3=> ∃(k:Nat) (sr:Rs) (ks:List FieldV) (pv:Value),k≤x9∧i= .int .i64 k∧ks.length=k∧Hid (But w.heap.size [r] w wr3)∧Hid (RdrAt wr3 r A cap l sr)∧Hid (sr.pool=ks1)∧Hid (Bx wr3 (w.heap.size+1) [.int .i64 x2, .int .i64 x3, .slice Ap1 ks1.length cp1, .int .i64 x5, .int .i64 x6, .int .i64 x7, .slice Ap2 ks2.length cp2,pv, .slice none 0 0] 104)∧Hid (Bx wr3 w.heap.size [.int .i64 0, .int .i64 0, .slice none 0 0, .int .i64 0, .int .i64 0, .int .i64 0, .slice none 0 0, .slice none 0 0, .slice none 0 0] 104)∧Hid (wr3.ownsRow w9.heap.size 168 4 pv ks.length (ks.flatMap FieldV.cells))∧Hid (classP l st=Rx.bind (Rx.pre ks (repP (fieldP l) (x9 - k) sr)) (clsD l x2 x3 ks1 x5 x6 x7 ks2))∧Hid (Kp (w.heap.size+2) w9 wr3)∧Hid (wr3.cell? ⟨r,4,none⟩=some (.slice Ap1 ks1.length cp1))) (fun i _=>x9 - (RowKit.intOf i).toNat)
              case atStart=>exact⟨0,s9, [], .slice none 0 0,by omega,rfl,rfl,HA9,HS9,HPL9,X9_c,X9_b,HOW,Lib.hid (by rw [Rx.pre_nil];exact HE9.out),HKW,HC9⟩
              case round=>
               obtain⟨wr3,hwr⟩: ∃W,W=wr:=⟨_,rfl⟩
               subst hwr
               obtain⟨k3,sr3,ks3,pv3,hk3,rfl,hkl,HAr,HSr,HPLr,Xc,Xb,HOr,HEr,HKr,HCr⟩:=hrel
               have hyr3:=HKr.out.size
               have HKL:=Lib.hid hkl
               clear hkl
               have e_cr3: ¬w.heap.size+1=r:=by omega
               by_cases hlt:k3<x9
               ·have HMK:=Lib.hid (show x9 - k3=(x9 - (k3+1))+1 by omega)
                have c_c:=Xc.out.cell 7 rfl
                have z_c:=Xc.out.frozen 7
                have HPP:=Lib.hid (show PlAt wr3 r (fun g=>w.heap.size+2≤g) sr3.pool by rw [HPLr.out];exact⟨_,HCr.out,HKr.out.slat HRP2.out⟩)
                go_wp2_with fail
                go_region_law (first
 | (refine step_lies rfl (.tmp 71) (.tmp 74) 101 rfl Tryz.underlying101 info_field rfl (by omega) w9.heap.size rfl (HO5.out.alloc _) rfl rfl (cells_new _ _ _) (by simp [Value.oneCell']) (by omega) (by have:=HKL.out;simp only [maxLen];omega) (by have:=HKL.out;omega) (by simp;omega) ?_
    intro g6 cap6 W' ho hg hb hgg
    have X6:=Lib.hid ((Xc5.out.below ((Below.refl _ _).alloc (Nat.le_refl _) _) Xc5.out.lt).below hb (by omega))
    have B6:=Lib.hid ((Xb5.out.below ((Below.refl _ _).alloc (Nat.le_refl _) _) Xb5.out.lt).below hb (by omega))
    have HO6:=Lib.hid ho
    have HL6:=Lib.hid (((Below.refl w9.heap.size wq).alloc (by omega) _).trans hb)
    have hge6:=(ho.lt g6 rfl).1
    have c_6:=X6.out.cell 7 rfl
    have z_6:=X6.out.frozen 7
    have hz6:=hb.size
    skip
    clear ho hg hb hgg)
 | (go_simp;go_at_call 123;go_loud (
    refine(HF r A cap l sr3 _ (fun g=>w.heap.size+2≤g) (fun g hg=>by omega) (H0.out.keepB HSr.out (by repeat' (first|with_reducible exact Below.refl _ _|with_reducible refine below_drewN ?_ _|with_reducible refine Below.drew ?_|with_reducible refine Below.setCell ?_ ?_ _|with_reducible refine Below.alloc ?_ ?_ _|omega| (simp;done) | (simp;omega)))) (HPP.out.low (by omega) (by repeat' (first|with_reducible exact Below.refl _ _|with_reducible refine below_drewN ?_ _|with_reducible refine Below.drew ?_|with_reducible refine Below.setCell ?_ ?_ _|with_reducible refine Below.alloc ?_ ?_ _|omega| (simp;done) | (simp;omega))))).mono ?_
    intro e wq hq
    rcases hq.cases with⟨a,er,hp,hb5,rfl⟩ | ⟨xq,sq,v,hp,hb5,rfl,rfl,hs⟩
    (have HP:=Lib.hid (HEr.out.trans (bind_stop (by rw [HMK.out];exact repP_stop hp)));have HA:=Lib.hid (hb_step HAr.out (by repeat' (first|with_reducible exact Below.refl _ _|with_reducible refine below_drewN ?_ _|with_reducible refine Below.drew ?_|with_reducible refine Below.setCell ?_ ?_ _|with_reducible refine Below.alloc ?_ ?_ _|omega| (simp;done) | (simp;omega))) hb5.but);clear hp hb5;exact(show _∧_ from⟨rfl,cpost_error HP.out HA.out⟩))
    simp only [fieldV]
    have HE5:=Lib.hid (HEr.out.trans (congrArg (fun z=>Rx.bind z (clsD l x2 x3 ks1 x5 x6 x7 ks2)) (show _=Rx.pre (ks3++ [xq]) (repP (fieldP l) (x9 - (k3+1)) sq) by rw [HMK.out];exact repP_step hp)))
    have HPL5:=Lib.hid ((keeps_field _ _ _ _ hp).trans HPLr.out)
    have HA5:=Lib.hid (hb_step HAr.out (by repeat' (first|with_reducible exact Below.refl _ _|with_reducible refine below_drewN ?_ _|with_reducible refine Below.drew ?_|with_reducible refine Below.setCell ?_ ?_ _|with_reducible refine Below.alloc ?_ ?_ _|omega| (simp;done) | (simp;omega))) hb5.but)
    have HS5:=Lib.hid hs
    have hz5:=hb5.but.size
    have hy5:wr3.heap.size≤wq.heap.size:=hz5
    have Xc5:=Lib.hid ((Xc.out.below ((Below.refl _ _).drew) Xc.out.lt).but hb5.but (ne_one (by omega)))
    have Xb5:=Lib.hid ((Xb.out.below ((Below.refl _ _).drew) Xb.out.lt).but hb5.but (ne_one (by omega)))
    have HK5:=Lib.hid ((HKr.out.below ((Below.refl _ _).drew)).step hb5.but (by omega) trivial)
    have HC5:=Lib.hid (hb5.c4.trans HCr.out)
    have HO5:=Lib.hid (own_heap HOr.out fun q hq=>hb5.but.block q (HOr.out.lt q hq).2 (ne_one (by have:=(HOr.out.lt q hq).1;omega)))
    skip
    have c_5:=Xc5.out.cell 7 rfl
    have hlt5:w.heap.size+1<wq.heap.size:=by omega
    clear hp hb5 hs)))
                all_goals go_wp2_with fail
                all_goals
                 go_roundw
                 case rel=>exact⟨k3+1,sq,ks3++ [xq],_,by omega,by go_num,by simp [HKL.out],Lib.hid (HA5.out.below_trans ((HL6.out.mono (by omega)).setCell (by simp) _)),Lib.hid (H0.out.keepB HS5.out ((HL6.out.mono (by omega)).setCell (by simp) _)),HPL5,Lib.hid (X6.out.set 7 _),Lib.hid (B6.out.set_other _ _ (by simp)),Lib.hid (own_eq (own_set HO6.out (by simp;omega) _) (by simp) (by simp [FieldV.cells])),HE5,Lib.hid ((HK5.out.below (HL6.out.mono (Nat.le_refl _))).set _ _ (by simp)),Lib.hid ((World.cell?_setCell_other _ _ _ _ (by first| (simp;done) | (simp;omega) |omega)).trans ((HL6.out.cell (p:=⟨r,4,none⟩) (by simp;omega)).trans HC5.out))⟩
                 case measure=>simp [RowKit.intOf];omega
               ·obtain rfl:k3=x9:=by omega
                have HEx3:=Lib.hid ((HEr.out.trans (congrArg (fun z=>Rx.bind z (clsD l x2 x3 ks1 x5 x6 x7 ks2)) (show _=Except.ok (ks3,sr3) by rw [Nat.sub_self];exact repP_end))).trans (Rx.bind_ok _ _ _))
                have HR3:=Lib.hid (slAt_own HOr.out (fun g=>w.heap.size+2≤g) (by omega) (by have:=HKL.out;omega) (fun q hq=>by have:=(HOr.out.lt q hq).1;omega))
                obtain⟨Ap3,cp3,hpv⟩:=own_slice HOr.out
                subst hpv
                clear hlt HOr HEr
                have HRP2:=Lib.hid (HKr.out.slat HRP2.out)
                have HR2:=Lib.hid (HKr.out.slat HR2.out)
                have HKr:=Lib.hid (Kp.refl (w.heap.size+2) wr3)
                go_wp2_with (go_at_call 121;refine(count_any r A cap 64 l sr3 _ (H0.out.keepB HSr.out (by repeat' (first|with_reducible exact Below.refl _ _|with_reducible refine below_drewN ?_ _|with_reducible refine Below.drew ?_|with_reducible refine Below.setCell ?_ ?_ _|with_reducible refine Below.alloc ?_ ?_ _|omega| (simp;done) | (simp;omega)))) (by omega)).mono ?_;refine stop_here ?_)
                refine go_on ?_
                intro e w10 hq
                rcases hq.cases with⟨a,er,hp,hb,rfl⟩ | ⟨x10,s10,v,hp,hb,rfl,⟨rfl,hn10⟩,hs⟩
                ·have HP:=Lib.hid (HEx3.out.trans (bind_stop hp))
                 clear hp
                 have HA:=Lib.hid (hb_step HAr.out (by repeat' (first|with_reducible exact Below.refl _ _|with_reducible refine below_drewN ?_ _|with_reducible refine Below.drew ?_|with_reducible refine Below.setCell ?_ ?_ _|with_reducible refine Below.alloc ?_ ?_ _|omega| (simp;done) | (simp;omega))) hb.but)
                 clear hb
                 go_wp2_with fail
                 exact(show _∧_ from⟨rfl,cpost_error HP.out HA.out⟩)
                ·have HE10:=Lib.hid (HEx3.out.trans (bind_step hp))
                 have hpx:=hp
                 clear hp
                 have HA10:=Lib.hid (hb_step HAr.out (by repeat' (first|with_reducible exact Below.refl _ _|with_reducible refine below_drewN ?_ _|with_reducible refine Below.drew ?_|with_reducible refine Below.setCell ?_ ?_ _|with_reducible refine Below.alloc ?_ ?_ _|omega| (simp;done) | (simp;omega))) hb.but)
                 have HK10:=Lib.hid (HKr.out.step hb.but (by omega) trivial)
                 have HC10:=Lib.hid (hb.c4.trans HCr.out)
                 have HS10:=Lib.hid hs
                 have hz10:=hb.but.size
                 try simp at hz10
                 have hy10:=HA10.out.size
                 have X10_b:=Lib.hid (Xb.out.but hb.but (ne_one (by omega)))
                 have X10_c:=Lib.hid (Xc.out.but hb.but (ne_one (by omega)))
                 clear hb hs Xc Xb
                 have HPL10:=Lib.hid ((keeps_count _ _ _ _ _ hpx).trans HPLr.out)
                 clear hpx
                 have HRP2:=Lib.hid (HK10.out.slat HRP2.out)
                 have HR2:=Lib.hid (HK10.out.slat HR2.out)
                 have HR3:=Lib.hid (HK10.out.slat HR3.out)
                 have HOW:=Lib.hid (World.ownsRow_nil w10 w10.heap.size 172 8)
                 have HKW:=Lib.hid (Kp.refl (w.heap.size+2) w10)
                 have hbase4:w.heap.size+2≤w10.heap.size:=by omega
                 go_wp2_with fail
                 go_loopw [80] (fun i wr4=> ∃(k:Nat) (sr:Rs) (ks:List (MethV×Value×Value)) (pv:Value),k≤x10∧i= .int .i64 k∧ks.length=k∧Hid (But w.heap.size [r] w wr4)∧Hid (RdrAt wr4 r A cap l sr)∧Hid (sr.pool=ks1)∧Hid (Bx wr4 (w.heap.size+1) [.int .i64 x2, .int .i64 x3, .slice Ap1 ks1.length cp1, .int .i64 x5, .int .i64 x6, .int .i64 x7, .slice Ap2 ks2.length cp2, .slice Ap3 ks3.length cp3,pv] 104)∧Hid (Bx wr4 w.heap.size [.int .i64 0, .int .i64 0, .slice none 0 0, .int .i64 0, .int .i64 0, .int .i64 0, .slice none 0 0, .slice none 0 0, .slice none 0 0] 104)∧Hid (wr4.ownsRow w10.heap.size 172 8 pv ks.length (methCells ks))∧Hid (classP l st=Rx.bind (Rx.pre (ks.map (·.1)) (repP (methP l) (x10 - k) sr)) (clsE l x2 x3 ks1 x5 x6 x7 ks2 ks3))∧Hid (Kp (w.heap.size+2) w10 wr4)∧Hid (wr4.cell? ⟨r,4,none⟩=some (.slice Ap1 ks1.length cp1))∧Hid (∀q∈ks,MethAt wr4 (fun g=>w.heap.size+2≤g∧pv.ownBlock≠some g) q.1 q.2.1 q.2.2)) (fun i _=>x10 - (RowKit.intOf i).toNat)
                 case atStart=>exact⟨0,s10, [], .slice none 0 0,by omega,rfl,rfl,HA10,HS10,HPL10,X10_c,X10_b,HOW,Lib.hid (by simp only [List.map_nil];rw [Rx.pre_nil];exact HE10.out),HKW,HC10,Lib.hid (fun q hq=>by cases hq)⟩
                 case round=>
                  obtain⟨wr4,hwr⟩: ∃W,W=wr:=⟨_,rfl⟩
                  subst hwr
                  obtain⟨k4,sr4,ks4,pv4,hk4,rfl,hkl,HAr,HSr,HPLr,Xc,Xb,HOr,HEr,HKr,HCr,HMr⟩:=hrel
                  have hyr4:=HKr.out.size
                  have HKL:=Lib.hid hkl
                  clear hkl
                  have e_cr4: ¬w.heap.size+1=r:=by omega
                  by_cases hlt:k4<x10
                  ·have HMK:=Lib.hid (show x10 - k4=(x10 - (k4+1))+1 by omega)
                   have c_c:=Xc.out.cell 8 rfl
                   have z_c:=Xc.out.frozen 8
                   have HPP:=Lib.hid (show PlAt wr4 r (fun g=>w.heap.size+2≤g) sr4.pool by rw [HPLr.out];exact⟨_,HCr.out,HKr.out.slat HRP2.out⟩)
                   go_wp2_with fail
                   go_region_law (first
 | (refine step_lies rfl (.tmp 83) (.tmp 86) 102 rfl Tryz.underlying102 info_method rfl (by omega) w10.heap.size rfl (HO5.out.alloc _) rfl rfl (cells_new _ _ _) (by simp [Value.oneCell']) (by omega) (by have:=HKL.out;simp only [maxLen];omega) (by have:=HKL.out;omega) (by simp;omega) ?_
    intro g6 cap6 W' ho hg hb hgg
    have X6:=Lib.hid ((Xc5.out.below ((Below.refl _ _).alloc (Nat.le_refl _) _) Xc5.out.lt).below hb (by omega))
    have B6:=Lib.hid ((Xb5.out.below ((Below.refl _ _).alloc (Nat.le_refl _) _) Xb5.out.lt).below hb (by omega))
    have HO6:=Lib.hid ho
    have HL6:=Lib.hid (((Below.refl w10.heap.size wq).alloc (by omega) _).trans hb)
    have hge6:=(ho.lt g6 rfl).1
    have c_6:=X6.out.cell 8 rfl
    have z_6:=X6.out.frozen 8
    have hz6:=hb.size
    have HM6:=Lib.hid (meths_grown (n:=ks4.length+1) (c:=cap6) HM5.out hg (fun q hq=> (HO5.out.lt q hq).2) hgg)
    clear ho hg hb hgg)
 | (go_simp;go_at_call 124;go_loud (
    refine(HM r A cap l sr4 _ (fun g=>w.heap.size+2≤g) (fun g hg=>by omega) (H0.out.keepB HSr.out (by repeat' (first|with_reducible exact Below.refl _ _|with_reducible refine below_drewN ?_ _|with_reducible refine Below.drew ?_|with_reducible refine Below.setCell ?_ ?_ _|with_reducible refine Below.alloc ?_ ?_ _|omega| (simp;done) | (simp;omega)))) (HPP.out.low (by omega) (by repeat' (first|with_reducible exact Below.refl _ _|with_reducible refine below_drewN ?_ _|with_reducible refine Below.drew ?_|with_reducible refine Below.setCell ?_ ?_ _|with_reducible refine Below.alloc ?_ ?_ _|omega| (simp;done) | (simp;omega))))).mono ?_
    intro e wq hq
    rcases hq.cases with⟨a,er,hp,hb5,rfl⟩ | ⟨xq,sq,v,hp,hb5,rfl,⟨code,traps,rfl,hme⟩,hs⟩
    (have HP:=Lib.hid (HEr.out.trans (bind_stop (by rw [HMK.out];exact repP_stop hp)));have HA:=Lib.hid (hb_step HAr.out (by repeat' (first|with_reducible exact Below.refl _ _|with_reducible refine below_drewN ?_ _|with_reducible refine Below.drew ?_|with_reducible refine Below.setCell ?_ ?_ _|with_reducible refine Below.alloc ?_ ?_ _|omega| (simp;done) | (simp;omega))) hb5.but);clear hp hb5;exact(show _∧_ from⟨rfl,cpost_error HP.out HA.out⟩))
    simp only [methV]
    obtain⟨Ac,cc,rfl,_⟩:=hme.hcode
    obtain⟨At,ct,rfl,_⟩:=hme.htraps
    have HE5:=Lib.hid (HEr.out.trans (congrArg (fun z=>Rx.bind z (clsE l x2 x3 ks1 x5 x6 x7 ks2 ks3)) (show _=Rx.pre ((ks4.map (·.1))++ [xq]) (repP (methP l) (x10 - (k4+1)) sq) by rw [HMK.out];exact repP_step hp)))
    have HPL5:=Lib.hid ((keeps_meth _ _ _ _ hp).trans HPLr.out)
    have HA5:=Lib.hid (hb_step HAr.out (by repeat' (first|with_reducible exact Below.refl _ _|with_reducible refine below_drewN ?_ _|with_reducible refine Below.drew ?_|with_reducible refine Below.setCell ?_ ?_ _|with_reducible refine Below.alloc ?_ ?_ _|omega| (simp;done) | (simp;omega))) hb5.but)
    have HS5:=Lib.hid hs
    have hz5:=hb5.but.size
    have hy5:wr4.heap.size≤wq.heap.size:=hz5
    have Xc5:=Lib.hid ((Xc.out.below ((Below.refl _ _).drew) Xc.out.lt).but hb5.but (ne_one (by omega)))
    have Xb5:=Lib.hid ((Xb.out.below ((Below.refl _ _).drew) Xb.out.lt).but hb5.but (ne_one (by omega)))
    have HK5:=Lib.hid ((HKr.out.below ((Below.refl _ _).drew)).step hb5.but (by omega) trivial)
    have HC5:=Lib.hid (hb5.c4.trans HCr.out)
    have HO5:=Lib.hid (own_heap HOr.out fun q hq=>hb5.but.block q (HOr.out.lt q hq).2 (ne_one (by have:=(HOr.out.lt q hq).1;omega)))
    have HM5:=Lib.hid (meths_next HMr.out HOr.out (Below.refl _ _).drew hb5.but (by omega) (by omega) hme)
    have c_5:=Xc5.out.cell 8 rfl
    have hlt5:w.heap.size+1<wq.heap.size:=by omega
    clear hp hb5 hs)))
                   all_goals go_wp2_with fail
                   all_goals
                    go_roundw
                    case rel=>exact⟨k4+1,sq,ks4++ [(xq, .slice Ac xq.code.length cc, .slice At xq.traps.length ct)],_,by omega,by go_num,by simp [HKL.out],Lib.hid (HA5.out.below_trans ((HL6.out.mono (by omega)).setCell (by simp) _)),Lib.hid (H0.out.keepB HS5.out ((HL6.out.mono (by omega)).setCell (by simp) _)),HPL5,Lib.hid (X6.out.set 8 _),Lib.hid (B6.out.set_other _ _ (by simp)),Lib.hid (own_eq (own_set HO6.out (by simp;omega) _) (by simp) (by simp [methCells,MethV.cells])),Lib.hid (by rw [List.map_append];exact HE5.out),Lib.hid ((HK5.out.below (HL6.out.mono (Nat.le_refl _))).set _ _ (by simp)),Lib.hid ((World.cell?_setCell_other _ _ _ _ (by first| (simp;done) | (simp;omega) |omega)).trans ((HL6.out.cell (p:=⟨r,4,none⟩) (by simp;omega)).trans HC5.out)),Lib.hid (meths_set HM6.out _ _ (by first| (simp;done) | (simp;omega) |omega))⟩
                    case measure=>simp [RowKit.intOf];omega
                  ·obtain rfl:k4=x10:=by omega
                   have HEx4:=Lib.hid ((HEr.out.trans (congrArg (fun z=>Rx.bind z (clsE l x2 x3 ks1 x5 x6 x7 ks2 ks3)) (show _=Except.ok ((ks4.map (·.1)),sr4) by rw [Nat.sub_self];exact repP_end))).trans (Rx.bind_ok _ _ _))
                   have HR4:=Lib.hid (slAt_own HOr.out (fun g=>w.heap.size+2≤g) (by omega) (by have:=HKL.out;omega) (fun q hq=>by have:=(HOr.out.lt q hq).1;omega))
                   have HME:=Lib.hid (fun q hq=>meth_mono (HMr.out q hq))
                   obtain⟨Ap4,cp4,hpv⟩:=own_slice HOr.out
                   subst hpv
                   clear hlt HOr HEr HMr
                   have HRP2:=Lib.hid (HKr.out.slat HRP2.out)
                   have HR2:=Lib.hid (HKr.out.slat HR2.out)
                   have HR3:=Lib.hid (HKr.out.slat HR3.out)
                   have HKr:=Lib.hid (Kp.refl (w.heap.size+2) wr4)
                   have HPP:=Lib.hid (show PlAt wr4 r (fun g=>w.heap.size+2≤g) sr4.pool by rw [HPLr.out];exact⟨_,HCr.out,HRP2.out⟩)
                   go_wp2_with (go_at_call 125;refine(skip_any r A cap l sr4 _ (fun g=>w.heap.size+2≤g) (fun g hg=>by omega) (H0.out.keepB HSr.out (by repeat' (first|with_reducible exact Below.refl _ _|with_reducible refine below_drewN ?_ _|with_reducible refine Below.drew ?_|with_reducible refine Below.setCell ?_ ?_ _|with_reducible refine Below.alloc ?_ ?_ _|omega| (simp;done) | (simp;omega)))) (HPP.out.low (by omega) (by repeat' (first|with_reducible exact Below.refl _ _|with_reducible refine below_drewN ?_ _|with_reducible refine Below.drew ?_|with_reducible refine Below.setCell ?_ ?_ _|with_reducible refine Below.alloc ?_ ?_ _|omega| (simp;done) | (simp;omega))))).mono ?_;refine stop_here ?_)
                   refine go_on ?_
                   intro e w11 hq
                   rcases hq.cases with⟨a,er,hp,hb,rfl⟩ | ⟨x11,s11,v,hp,hb,rfl,rfl,hs⟩
                   ·have HP:=Lib.hid (HEx4.out.trans (bind_stop hp))
                    clear hp
                    have HA:=Lib.hid (hb_step HAr.out (by repeat' (first|with_reducible exact Below.refl _ _|with_reducible refine below_drewN ?_ _|with_reducible refine Below.drew ?_|with_reducible refine Below.setCell ?_ ?_ _|with_reducible refine Below.alloc ?_ ?_ _|omega| (simp;done) | (simp;omega))) hb.but)
                    clear hb
                    go_wp2_with fail
                    exact(show _∧_ from⟨rfl,cpost_error HP.out HA.out⟩)
                   ·have HE11:=Lib.hid (HEx4.out.trans (bind_step hp))
                    have hpx:=hp
                    clear hp
                    have HA11:=Lib.hid (hb_step HAr.out (by repeat' (first|with_reducible exact Below.refl _ _|with_reducible refine below_drewN ?_ _|with_reducible refine Below.drew ?_|with_reducible refine Below.setCell ?_ ?_ _|with_reducible refine Below.alloc ?_ ?_ _|omega| (simp;done) | (simp;omega))) hb.but)
                    have HK11:=Lib.hid (HKr.out.step hb.but (by omega) trivial)
                    have HC11:=Lib.hid (hb.c4.trans HCr.out)
                    have HS11:=Lib.hid hs
                    have hz11:=hb.but.size
                    try simp at hz11
                    have hy11:=HA11.out.size
                    have X11_b:=Lib.hid (Xb.out.but hb.but (ne_one (by omega)))
                    have X11_c:=Lib.hid (Xc.out.but hb.but (ne_one (by omega)))
                    clear hb hs Xc Xb
                    clear hpx
                    have HRP2:=Lib.hid (HK11.out.slat HRP2.out)
                    have HR2:=Lib.hid (HK11.out.slat HR2.out)
                    have HR3:=Lib.hid (HK11.out.slat HR3.out)
                    have HR4:=Lib.hid (HK11.out.slat HR4.out)
                    have HME:=Lib.hid (fun q hq=>HK11.out.meth (HME.out q hq))
                    have c_q0:=HS11.out.c0
                    have c_q1:=HS11.out.c1
                    by_cases tf:s11.pos<l.length
                    ·have HE11:=Lib.hid (HE11.out.trans (if_pos tf))
                     go_wp2_with fail
                     go_quiet (fail)
                     go_wp2_with (go_at_call 120;refine(wrong_any _ _ _ _).mono ?_;rintro e w9 ⟨rfl,rfl⟩)
                     exact(show _∧_ from⟨rfl,cpost_error HE11.out (HA11.out.below_trans (by repeat' (first|with_reducible exact Below.refl _ _|with_reducible refine below_drewN ?_ _|with_reducible refine Below.drew ?_|with_reducible refine Below.setCell ?_ ?_ _|with_reducible refine Below.alloc ?_ ?_ _|omega| (simp;done) | (simp;omega))))⟩)
                    ·have HE11:=Lib.hid (HE11.out.trans (if_neg tf))
                     go_wp2_with fail
                     go_quiet (fail)
                     go_wp2_with (first| (refine wpList_load_row rfl _ _ rfl (w.heap.size+1) rfl _ _ _ _ ((X11_c.out.below (below_drewN (Below.refl _ _) _) X11_c.out.lt)) Tryz.underlying104 rfl (by kernel_rfl) ?_) | (refine wpList_store_row rfl _ _ _ rfl w.heap.size _ rfl rfl _ _ ((X11_b.out.below (below_drewN (Below.refl _ _) _) X11_b.out.lt)) (by kernel_rfl) rfl (by simp [Value.oneCell']) ?_))
                     refine bodyPost_ret (v:= .agg #[.int .i64 x2, .int .i64 x3, .slice Ap1 ks1.length cp1, .int .i64 x5, .int .i64 x6, .int .i64 x7, .slice Ap2 ks2.length cp2, .slice Ap3 ks3.length cp3, .slice Ap4 ks4.length cp4]) (results_row rfl rfl ((X11_b.out.below (below_drewN (Below.refl _ _) _) X11_b.out.lt).row [.int .i64 x2, .int .i64 x3, .slice Ap1 ks1.length cp1, .int .i64 x5, .int .i64 x6, .int .i64 x7, .slice Ap2 ks2.length cp2, .slice Ap3 ks3.length cp3, .slice Ap4 ks4.length cp4]) Tryz.underlying104 rfl (by kernel_rfl)) rfl ?_
                     exact cpost_ok HE11.out (HA11.out.below_trans (below_setRow (below_drewN (Below.refl _ _) _) (Nat.le_refl _) _)) (class_at ((Kp.below (Kp.refl _ _) (below_drewN (Below.refl _ _) _)).row (by simp) _) (by omega) HRP2.out HR2.out HR3.out HR4.out HME.out)
end Go.Proofs.YtpbnjakeielipaaGreatDoor
