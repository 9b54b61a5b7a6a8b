/-
  AsmRight: every class made: check finds nothing, it can be written unless its file is too long, and reads back as the same class.
-/
import Derived.Test.YtlcidkiplidamaaGreatDoorR32
import Derived.Test.YtlcidkiplidamaaGreatDoorRt0
import Derived.Test.YtlcidkiplidamaaGreatDoorEm7
import Derived.Test.YtlcidkiplidamaaGreatDoorEm9
import Derived.Test.YtlcidkiplidamaaGreatDoorR15
import Derived.Test.YtlcidkiplidamaaGreatDoorR17
import Derived.Test.YtlcidkiplidamaaGreatDoorR18
import Derived.Test.YtlcidkiplidamaaGreatDoorR13
import Derived.Test.YtlcidkiplidamaaGreatDoorAsmFt2
import Derived.Laws.OwnMore
set_option linter.unusedSimpArgs false
set_option linter.unusedVariables false
set_option maxRecDepth 100000
set_option maxHeartbeats 8000000
namespace Go.Proofs.YtlcidkiplidamaaGreatDoor
open Go Go.RowKit Lib Go.Maps
theorem lawRight_any (text:ByteArray) (mx:Int) (w:World) (ht:text.size≤9223372036854775807) (hmx:w.cell? ⟨Tryz.maxB,0,none⟩=some (.int .i64 mx)):
    Calls Tryz.prog 7 #[.string text] w fun e w'=>e= .returned (.bool true)∧Below w.heap.size w w':=by
  have HAL:=Lib.hid (alive_asm mx w hmx)
  have hxw:Tryz.maxB<w.heap.size:=World.block_lt_of_cell? _ _ hmx
  have HMX:=Lib.hid hmx
  clear hmx
  by_cases h1:8000<text.size
  · have h1':(8000:Int) < (text.size:Int):=by omega
    go_enter Tryz.func7,Tryz.ntmps7
    go_wp2_with (go_at_call 8;refine HAL.out.mono ?_;rintro e w1 ⟨rfl,hb1⟩)
    go_ret
    exact⟨rfl,hb1⟩
  have h1': ¬(8000:Int) < (text.size:Int):=by omega
  obtain⟨pp,hpp⟩: ∃p,aAsm checkF text=p:=⟨_,rfl⟩
  have hA1:=fun W (hW:Below w.heap.size w W)=>asm_ans text mx W ((hW.cell (p:=⟨Tryz.maxB,0,none⟩) hxw).trans HMX.out) (by omega) (fun s hs=> .inr (Nat.le_trans (line_le hs) (by omega)))
  rw [hpp] at hA1
  have HA1:=Lib.hid hA1
  have HPP:=Lib.hid hpp
  have HTX:=Lib.hid (show text.size≤65535 by omega)
  clear hA1 hpp h1
  go_enter Tryz.func7,Tryz.ntmps7
  go_wp2_with (go_at_call 8;refine stop_here ?_)
  refine go_on ?_
  refine HAL.out.mono ?_
  rintro e w1 ⟨rfl,hb1⟩
  have HB1:=Lib.hid hb1
  clear hb1 HAL
  go_wp2_with (go_at_call 9;refine stop_here ?_)
  refine go_on ?_
  refine(HA1.out w1 HB1.out).mono ?_
  rintro e w5 ⟨hb5,a11,a21,a31,a41,hc5,rfl⟩
  obtain⟨cc,hcc⟩: ∃c,clsOf pp=c:=⟨_,rfl⟩
  obtain⟨er,her⟩: ∃x,errOf pp=x:=⟨_,rfl⟩
  obtain⟨L,hL⟩: ∃x,linOf pp=x:=⟨_,rfl⟩
  have HQ:er≠0∨er=0∧Hid (ClsFit cc∧checkF cc=0):=by
    rcases pp with⟨n,e0⟩ |c
    · exact .inl (her▸asm_nz HPP.out)
    · exact .inr ⟨her.symm,Lib.hid (hcc▸asm_fit HTX.out HPP.out)⟩
  rw [hcc,her,hL]
  rw [hcc] at hc5
  obtain⟨P1,p1,rfl,_,_⟩:=sl_len hc5.hpool
  obtain⟨I1,i1,rfl,_,_⟩:=sl_len hc5.hifs
  obtain⟨F1,f1,rfl,_,_⟩:=sl_len hc5.hflds
  obtain⟨M1,m1,rfl⟩: ∃A k,a41= .slice A cc.mths.length k:=by
    obtain⟨ms,e1,s1,r1⟩:=hc5.hmths
    obtain⟨A,k,e,_,_⟩:=sl_len s1
    exact⟨A,k,e⟩
  have HC5:=Lib.hid hc5
  have HB5:=Lib.hid (HB1.out.trans (hb5.mono HB1.out.size))
  have hz5:=HB5.out.size
  clear hc5 hb5 hcc her hL HA1 HPP
  have XZ1:=Lib.hid (bx_new w5 zeroA 28)
  go_wp2_with (refine wpList_store_row rfl _ _ _ rfl w5.heap.size (cc.cells (.slice P1 cc.pool.length p1) (.slice I1 cc.ifs.length i1) (.slice F1 cc.flds.length f1) (.slice M1 cc.mths.length m1)).toArray rfl rfl _ _ XZ1.out (by kernel_rfl) rfl (by simp [ClassV.cells,Value.oneCell']) ?_;refine stop_here ?_)
  refine go_on ?_
  obtain⟨w6,hw6⟩: ∃W,W=(w5.alloc (.cells #[.int .i64 0, .int .i64 0, .slice none 0 0, .int .i64 0, .int .i64 0, .int .i64 0, .slice none 0 0, .slice none 0 0, .slice none 0 0] 28)).setRow w5.heap.size (cc.cells (.slice P1 cc.pool.length p1) (.slice I1 cc.ifs.length i1) (.slice F1 cc.flds.length f1) (.slice M1 cc.mths.length m1)).toArray:=⟨_,rfl⟩
  rw [←hw6]
  have XA1:=Lib.hid (show Bx w6 w5.heap.size (cc.cells (.slice P1 cc.pool.length p1) (.slice I1 cc.ifs.length i1) (.slice F1 cc.flds.length f1) (.slice M1 cc.mths.length m1)) 28 by rw [hw6];exact XZ1.out.row _)
  have hBw6:Below w5.heap.size w5 w6:=by rw [hw6];exact below_rowA ((Below.refl _ _).alloc (Nat.le_refl _) _) _ _ (Nat.le_refl _)
  clear hw6 XZ1
  have HB6:=Lib.hid (HB5.out.trans (hBw6.mono hz5))
  have HC6:=Lib.hid (HC5.out.keep (Kept.of_below hBw6))
  have hz6:=HB6.out.size
  clear hBw6 HC5
  rcases HQ with her| ⟨rfl,HFC⟩
  · have her1:((er:Int)==0)=false:=by simpa using her
    go_wp2_with (go_at_call 11;refine(num_any _ _).mono ?_;rintro e w11 ⟨rfl,rfl⟩)
    go_ret
    exact⟨rfl,HB6.out⟩
  obtain⟨hfit,hch⟩:=HFC.out
  have HFIT:=Lib.hid hfit
  have HCK:=Lib.hid (check_full cc _ _ _ _ _ w6 HC6.out hfit.fine)
  unfold bookV at HCK
  rw [hch] at HCK
  clear hch hfit HFC
  have m0:=XA1.out.cell 0 rfl
  have m1':=XA1.out.cell 1 rfl
  have m2:=XA1.out.cell 2 rfl
  have m3:=XA1.out.cell 3 rfl
  have m4:=XA1.out.cell 4 rfl
  have m5:=XA1.out.cell 5 rfl
  have m6:=XA1.out.cell 6 rfl
  have m7:=XA1.out.cell 7 rfl
  have m8:=XA1.out.cell 8 rfl
  go_wp2_with (first| (go_at_call 11;refine(num_any _ _).mono ?_;rintro e w11 ⟨rfl,rfl⟩) | (go_at_call 17;refine stop_here ?_))
  refine go_on ?_
  refine HCK.out.mono ?_
  rintro e w7 ⟨rfl,hb7⟩
  have HB7:=Lib.hid (HB6.out.trans (hb7.mono hz6))
  have XA2:=Lib.hid (XA1.out.below hb7 XA1.out.lt)
  have HC7:=Lib.hid (HC6.out.keep (Kept.of_below hb7))
  have hz7:=HB7.out.size
  clear hb7 HCK HB6 XA1 HC6 m0 m1' m2 m3 m4 m5 m6 m7 m8
  have m0:=XA2.out.cell 0 rfl
  have m1':=XA2.out.cell 1 rfl
  have m2:=XA2.out.cell 2 rfl
  have m3:=XA2.out.cell 3 rfl
  have m4:=XA2.out.cell 4 rfl
  have m5:=XA2.out.cell 5 rfl
  have m6:=XA2.out.cell 6 rfl
  have m7:=XA2.out.cell 7 rfl
  have m8:=XA2.out.cell 8 rfl
  have HEW:=Lib.hid (ewrite_fit cc HFIT.out _ _ _ _ _ w7 HC7.out)
  unfold bookV at HEW
  go_wp2_with (go_at_call 18;refine stop_here ?_)
  refine go_on ?_
  refine HEW.out.mono ?_
  rintro e w8 ⟨hb8,hq8⟩
  have HB8:=Lib.hid (HB7.out.trans (hb8.mono hz7))
  have XA3:=Lib.hid (XA2.out.below hb8 XA2.out.lt)
  have HC8:=Lib.hid (HC7.out.keep (Kept.of_below hb8))
  have hz8:=HB8.out.size
  clear hb8 HEW HB7 XA2 HC7 m0 m1' m2 m3 m4 m5 m6 m7 m8
  have m0:=XA3.out.cell 0 rfl
  have m1':=XA3.out.cell 1 rfl
  have m2:=XA3.out.cell 2 rfl
  have m3:=XA3.out.cell 3 rfl
  have m4:=XA3.out.cell 4 rfl
  have m5:=XA3.out.cell 5 rfl
  have m6:=XA3.out.cell 6 rfl
  have m7:=XA3.out.cell 7 rfl
  have m8:=XA3.out.cell 8 rfl
  split at hq8
  · subst hq8
    have HRF:=Lib.hid (fun W (hW:Below w8.heap.size w8 W)=>refused_some cc HFIT.out _ _ _ _ _ W (HC8.out.keep (Kept.of_below hW)))
    unfold bookV at HRF
    go_upto_region 10 with(go_at_call 11;refine(num_any _ _).mono ?_;rintro e w11 ⟨rfl,rfl⟩)
    go_region_law (first
      | (go_simp;go_at_call 11;refine(num_any _ _).mono ?_;rintro e w11 ⟨rfl,rfl⟩;dsimp only)
      | (go_simp;go_at_call 19;refine(HRF.out _ (Below.refl _ _).drew).mono ?_;rintro e w12 ⟨⟨r,hr2,rfl⟩,hb12⟩;have HB12:=Lib.hid (HB8.out.drew.trans (hb12.mono hz8));clear hb12;have hr3:((2:Int)==r)=false:=by simpa using fun h=>hr2 h.symm
         dsimp only))
    all_goals
      go_wp2_with fail
      go_ret
      exact⟨rfl,HB12.out⟩
  next hlen=>
  obtain⟨V,rfl,hown⟩:=hq8
  obtain⟨A,cap,rfl,hrd,hA⟩:=own_at hown
  have HRD:=Lib.hid (read_any field_any method_any A cap (wCls cc) w8 hrd hA (by omega))
  have HRC:=Lib.hid (cls_in HFIT.out (by omega))
  clear hown hrd hA
  go_wp2_with (first| (go_at_call 11;refine(num_any _ _).mono ?_;rintro e w11 ⟨rfl,rfl⟩) | (go_at_call 20;refine stop_here ?_))
  refine go_on ?_
  refine HRD.out.mono ?_
  intro e w9 hq9
  unfold ReadPost at hq9
  rw [HRC.out] at hq9
  obtain⟨hb9,b1,b2,b3,b4,rfl,hc9⟩:=hq9
  obtain⟨P2,p2,rfl,_,_⟩:=sl_len hc9.hpool
  obtain⟨I2,i2,rfl,_,_⟩:=sl_len hc9.hifs
  obtain⟨F2,f2,rfl,_,_⟩:=sl_len hc9.hflds
  obtain⟨M2,m2',rfl⟩: ∃A k,b4= .slice A cc.mths.length k:=by
    obtain⟨ms,e1,s1,r1⟩:=hc9.hmths
    obtain⟨A,k,e,_,_⟩:=sl_len s1
    exact⟨A,k,e⟩
  have HC9:=Lib.hid hc9
  have HCc:=Lib.hid (HC8.out.keep (Kept.of_below hb9))
  have HW9:=Lib.hid (HB8.out.trans (hb9.mono hz8))
  have XA9:=Lib.hid (XA3.out.below hb9 XA3.out.lt)
  have hz9:=hb9.size
  clear hc9 hb9 HC8 XA3 HRD m0 m1' m2 m3 m4 m5 m6 m7 m8
  have XZ3:=Lib.hid (bx_new w9 zeroA 28)
  go_wp2_with (refine wpList_store_row rfl _ _ _ rfl w9.heap.size (cc.cells (.slice P2 cc.pool.length p2) (.slice I2 cc.ifs.length i2) (.slice F2 cc.flds.length f2) (.slice M2 cc.mths.length m2')).toArray rfl rfl _ _ XZ3.out (by kernel_rfl) rfl (by simp [ClassV.cells,Value.oneCell']) ?_;refine stop_here ?_)
  refine go_on ?_
  obtain⟨w10,hw10⟩: ∃W,W=(w9.alloc (.cells #[.int .i64 0, .int .i64 0, .slice none 0 0, .int .i64 0, .int .i64 0, .int .i64 0, .slice none 0 0, .slice none 0 0, .slice none 0 0] 28)).setRow w9.heap.size (cc.cells (.slice P2 cc.pool.length p2) (.slice I2 cc.ifs.length i2) (.slice F2 cc.flds.length f2) (.slice M2 cc.mths.length m2')).toArray:=⟨_,rfl⟩
  rw [←hw10]
  have XA2:=Lib.hid (show Bx w10 w9.heap.size (cc.cells (.slice P2 cc.pool.length p2) (.slice I2 cc.ifs.length i2) (.slice F2 cc.flds.length f2) (.slice M2 cc.mths.length m2')) 28 by rw [hw10];exact XZ3.out.row _)
  have hBw10:Below w9.heap.size w9 w10:=by rw [hw10];exact below_rowA ((Below.refl _ _).alloc (Nat.le_refl _) _) _ _ (Nat.le_refl _)
  clear hw10 XZ3
  have X8:=Lib.hid (XA9.out.below hBw10 XA9.out.lt)
  have HS8:=Lib.hid (class_same cc _ _ _ _ _ _ _ _ _ _ w10 (HCc.out.keep (Kept.of_below hBw10)) (HC9.out.keep (Kept.of_below hBw10)))
  have HBf:=Lib.hid (HW9.out.trans (hBw10.mono HW9.out.size))
  have hlt5:=XA9.out.lt
  clear hBw10 XA9 HC9 HCc
  unfold bookV at HS8
  have m0:=X8.out.cell 0 rfl
  have m1':=X8.out.cell 1 rfl
  have m2:=X8.out.cell 2 rfl
  have m3:=X8.out.cell 3 rfl
  have m4:=X8.out.cell 4 rfl
  have m5:=X8.out.cell 5 rfl
  have m6:=X8.out.cell 6 rfl
  have m7:=X8.out.cell 7 rfl
  have m8:=X8.out.cell 8 rfl
  have n0:=XA2.out.cell 0 rfl
  have n1:=XA2.out.cell 1 rfl
  have n2:=XA2.out.cell 2 rfl
  have n3:=XA2.out.cell 3 rfl
  have n4:=XA2.out.cell 4 rfl
  have n5:=XA2.out.cell 5 rfl
  have n6:=XA2.out.cell 6 rfl
  have n7:=XA2.out.cell 7 rfl
  have n8:=XA2.out.cell 8 rfl
  go_wp2_with (first| (go_at_call 11;refine(num_any _ _).mono ?_;rintro e w11 ⟨rfl,rfl⟩) | (go_at_call 12;refine HS8.out.mono ?_;rintro e w11 ⟨rfl,hb11⟩;have HBg:=Lib.hid (HBf.out.trans (hb11.mono HBf.out.size));clear hb11))
  go_ret
  exact⟨rfl,HBg.out⟩
end Go.Proofs.YtlcidkiplidamaaGreatDoor
