/-
  What the laws rest on, part 21: walks of the program's functions and plain laws. Conditions: none but those that each theorem names.
-/
import Derived.Test.YtlcidkiplidamaaGreatDoorB19
import Derived.Test.YtlcidkiplidamaaGreatDoorB20
import Derived.Test.YtlcidkiplidamaaGreatDoorB09
import Derived.Laws.EntriesVeiled
import Derived.WalkMore
import Derived.Lib.SmallJoins
import Derived.BigRegion
import Derived.Deep.RegionHeld2
import Derived.RegionTactic
import Derived.Test.YtlcidkiplidamaaGreatDoorB00
set_option linter.unusedSimpArgs false
set_option linter.unusedVariables false
set_option maxRecDepth 100000
set_option maxHeartbeats 4000000
namespace Go.Proofs.YtlcidkiplidamaaGreatDoor
open Go Go.RowKit Lib Go.Maps
theorem flat_at {α:Type} (f:α→List Value) (n:Nat) (hf: ∀x,(f x).length=n): ∀(l:List α) (k q:Nat) (x:α),l[k]?=some x→q<n→(l.flatMap f)[k*n+q]?=(f x)[q]?
 | [],k,q,x,h,_=>by cases h
 |a::l,0,q,x,h,hq=>by
  cases h
  rw [List.flatMap_cons,Nat.zero_mul,Nat.zero_add,List.getElem?_append_left (by rw [hf];exact hq)]
 |a::l,k+1,q,x,h,hq=>by
  rw [List.flatMap_cons,List.getElem?_append_right (by rw [hf,Nat.succ_mul];omega),hf,show(k+1)*n+q - n=k*n+q by rw [Nat.succ_mul];omega]
  exact flat_at f n hf l k q x (by simpa using h) hq
theorem lpost_no {cs:List Nat} {w w':World} {ρ:Nat→Nat} {B kb line:Nat} {p:Option AsK} {e:Ending} (hp:p=none) (he:e= .panicked [{ v:=stopA line 60,recovered:=false }]) (hb:Below B w w'):LPost cs w ρ B kb line p e w':=by
 subst hp
 exact⟨he,hb⟩
theorem i16_range (n:Int): -32768≤IntKind.i16.wrap n∧IntKind.i16.wrap n≤32767:=by
 simp only [IntKind.wrap,IntKind.bits,IntKind.signed];simp;split<;>omega
theorem end_any (ρ:Nat→Nat) (B kb xb:Nat) (σ:AsK) (V:MkV) (m:AsM) (U:MtV) (w:World) (N:Nat) (hK:MkC w ρ B kb σ V) (hV:V.mv= .pointer (some ⟨xb,0,none⟩)) (hM:MtC w ρ B xb m U) (hS:AsSm σ N) (hMS:AsMSm m N) (hN:N≤900000):
  Calls Tryz.prog 54 #[.pointer (some ⟨kb,0,none⟩)] w (LPost [1,2,3,4,5,6,7,8,9,10,11,12,13] w ρ B kb m.line (σ.endM m)):=by
 have hmf: ∀(fn:Fn) (first cap:Array Value) (w:World),(Instr.makeFunc fn first cap).run Tryz.prog w= .ok (.func fn first cap) w:=fun _ _ _ _=>rfl
 have H:=Lib.hid hK
 have HV:=Lib.hid hV
 have HM:=Lib.hid hM
 have HS:=Lib.hid hS
 have HMS:=Lib.hid hMS
 have hkl:=hK.box.lt
 have hxl:=hM.box.lt
 have hB:=hK.hB
 have c12:=hK.box.cell 12 rfl
 have z12:=hK.box.frozen 12
 rw [hV] at c12
 have hx11:=hM.box.cell 11 rfl
 have hkx: ¬kb=xb:=fun e=>by have h1:=hK.kc;rw [e,hM.xc] at h1;omega
 have hxk: ¬xb=kb:=fun e=>hkx e.symm
 obtain⟨y1,y2,y3,y4,y5,y6,y7,y8,y9,y10,y11,y12⟩:=far kb w.heap.size hkl
 obtain⟨v1,v2,v3,v4,v5,v6,v7,v8,v9,v10,v11,v12⟩:=far xb w.heap.size hxl
 obtain⟨Aj,kj,hjv⟩:=own_slice hM.jumps.1
 have HJV:=Lib.hid hjv
 have x11:w.cell? ⟨xb,11,none⟩=some (.slice Aj m.jumps.length kj):=by rw [←hjv];exact hx11
 clear hx11 hK hV hM hS hMS hjv
 go_enter Tryz.func54,Tryz.ntmps54
 go_wp2_with fail
 obtain⟨w0,hw0⟩: ∃W,W=((w.setCell ⟨kb,12,none⟩ (.pointer none)).alloc (.cells #[.pointer (some ⟨xb,0,none⟩)] 65)).alloc (.cells #[.func (.func 125) #[] #[.pointer (some ⟨w.heap.size,0,none⟩)]] 1):=⟨_,rfl⟩
 rw [←hw0]
 have S0:=Lib.hid (H.out.setc 12 (.pointer none) (σ':=σ) (V':={ V with mv:= .pointer none }) rfl rfl rfl rfl rfl ⟨rfl,rfl,rfl,rfl,rfl⟩)
 have B0:=Lib.hid (show Below (w.setCell ⟨kb,12,none⟩ (.pointer none)).heap.size (w.setCell ⟨kb,12,none⟩ (.pointer none)) w0 by rw [hw0];exact((Below.refl _ _).alloc (Nat.le_refl _) _).alloc (by simp) _)
 have K0:=Lib.hid (S0.out.1.below B0.out)
 have M0:=Lib.hid ((HM.out.keep S0.out.2 (by intro c h1 h2 hm;simp at hm;omega)).below B0.out)
 have G0:=Lib.hid (show Chg [1,2,3,4,5,6,7,8,9,10,11,12,13] w ρ w0 ρ from(S0.out.2.trans (Chg.of_below B0.out)).mono (by simp))
 have X2:=Lib.hid (show Bx w0 w.heap.size [.pointer (some ⟨xb,0,none⟩)] 65 by rw [hw0];exact(bx_new_at _ _ _ _ (by simp)).below ((Below.refl _ _).alloc (Nat.le_refl _) _) (by simp))
 have X3:=Lib.hid (show Bx w0 (w.heap.size+1) [.func (.func 125) #[] #[.pointer (some ⟨w.heap.size,0,none⟩)]] 1 by rw [hw0];exact bx_new_at _ _ _ _ (by simp))
 have hz0:w0.heap.size=w.heap.size+2:=by rw [hw0];simp
 have HZ0:=Lib.hid hz0
 have R2:=Lib.hid (H.out.low.fresh (Nat.le_refl w.heap.size))
 have R3:=Lib.hid (H.out.low.fresh (show w.heap.size≤w.heap.size+1 by omega))
 clear hw0 hz0 c12 z12 x11
 go_loopw [6,7,24] (fun _ _ i wr=> ∃(k:Nat) (code:List UInt8),i= .int .i64 k∧k≤m.jumps.length∧code.length=m.mv.code.length∧Hid (aJumps m.labels m.jumps m.mv.code=aJumps m.labels (m.jumps.drop k) code)∧Hid (MkC wr ρ B kb σ { V with mv:= .pointer none })∧Hid (MtC wr ρ B xb { m with mv:={ m.mv with code:=code } } U)∧Hid (Chg [1,2,3,4,5,6,7,8,9,10,11,12,13] w ρ wr ρ)∧Hid (w.heap.size+2≤wr.heap.size)∧Hid (Bx wr w.heap.size [.pointer (some ⟨xb,0,none⟩)] 65)∧Hid (Bx wr (w.heap.size+1) [.func (.func 125) #[] #[.pointer (some ⟨w.heap.size,0,none⟩)]] 1)) (fun _ _ i _=>m.jumps.length - (RowKit.intOf i).toNat)
 case atStart=>exact⟨0,m.mv.code,rfl,by omega,rfl,Lib.hid rfl,K0,M0,G0,Lib.hid (by rw [HZ0.out];exact Nat.le_refl _),X2,X3⟩
 case round=>
  obtain⟨wr1,hwr⟩: ∃W,W=wr:=⟨_,rfl⟩
  subst hwr
  obtain⟨k,code,rfl,hk,hcl,HJ,KR,MR,GR,ZR,XR2,XR3⟩:=hrel
  by_cases hlt:k<m.jumps.length
  ·obtain⟨j,hj⟩: ∃j,m.jumps[k]?=some j:=⟨_,List.getElem?_eq_getElem hlt⟩
   obtain⟨gj,cj,hAj⟩: ∃gj cj,U.jv= .slice (some ⟨gj,0,none⟩) m.jumps.length cj:=by
    rcases Go.Joins.ownsRow_forms MR.out.jumps.1 with⟨_,h0⟩ | ⟨g,cap,e⟩
    ·exact absurd (show m.jumps.length=0 from h0) (by omega)
    ·exact⟨g,cap,e⟩
   have hAe:Aj=some ⟨gj,0,none⟩∧kj=cj:=by
    have h1:=HJV.out
    rw [hAj] at h1
    injection h1 with h1 _ h2
    exact⟨h1.symm,h2.symm⟩
   obtain⟨rfl,rfl⟩:=hAe
   have hrow:=MR.out.jumps.1
   rw [hAj] at hrow
   have hcells: ∀q,q<3→wr1.cell? ⟨gj,k*3+q,none⟩=j.cells[q]?:=fun q hq=> (hrow.cellAt (k*3+q) (by show k*3+q<m.jumps.length*3;omega)).trans (flat_at AsF.cells 3 (fun _=>rfl) _ k q j hj hq)
   have j0:=hcells 0 (by omega)
   have j1:=hcells 1 (by omega)
   have j2:=hcells 2 (by omega)
   simp only [AsF.cells,List.getElem?_cons_zero,List.getElem?_cons_succ,Nat.add_zero] at j0 j1 j2
   have HJJ:=Lib.hid hj
   have hgl:gj<wr1.heap.size:=(hrow.lt gj rfl).2
   clear hcells hrow hj
   obtain⟨lk,hlk⟩: ∃lk,aLook m.labels j.lab=lk:=⟨_,rfl⟩
   have HLK:=Lib.hid hlk
   cases lk with
   |none=>
    have hjb:=HMS.out.jump j (List.mem_of_getElem? HJJ.out)
    clear hlk
    go_wp2_with fail
    obtain⟨wa,hwa⟩: ∃W,W=wr1.alloc (.cells #[.int .i64 (j.at':Int), .int .i64 (j.fr:Int), .string j.lab] 176):=⟨_,rfl⟩
    rw [←hwa]
    have BA:=Lib.hid (show Below wr1.heap.size wr1 wa by rw [hwa];exact(Below.refl _ _).alloc (Nat.le_refl _) _)
    have XF:=Lib.hid (show Bx wa wr1.heap.size [.int .i64 (j.at':Int), .int .i64 (j.fr:Int), .string j.lab] 176 by rw [hwa];exact bx_new_at _ _ _ _ (by simp))
    have KA:=Lib.hid (KR.out.below BA.out)
    have MA:=Lib.hid (MR.out.below BA.out)
    have GA:=Lib.hid (show Chg [1,2,3,4,5,6,7,8,9,10,11,12,13] w ρ wa ρ from(GR.out.trans (Chg.of_below BA.out)).mono (by simp))
    have XA2:=Lib.hid (XR2.out.below BA.out XR2.out.lt)
    have XA3:=Lib.hid (XR3.out.below BA.out XR3.out.lt)
    have ZA:=Lib.hid (show w.heap.size+2≤wa.heap.size from Nat.le_trans ZR.out BA.out.size)
    have HFL:=Lib.hid (show wr1.heap.size<wa.heap.size from XF.out.lt)
    have f0:=XF.out.cell 0 rfl
    have f1:=XF.out.cell 1 rfl
    have f2:=XF.out.cell 2 rfl
    have HLN:=Lib.hid (fun W (hb:Below wa.heap.size wa W)=>look_none w.heap.size (w.heap.size+1) xb ρ B { m with mv:={ m.mv with code:=code } } U j.lab W ((XA2.out.below hb XA2.out.lt).cell 0 rfl) ((XA3.out.below hb XA3.out.lt).cell 0 rfl) (MA.out.below hb) (by have:=hjb.2.2;simp only [maxLen];omega) HLK.out)
    have HN:=Lib.hid (show aJumps m.labels (m.jumps.drop k) code=none by
     rw [List.drop_eq_getElem_cons hlt,show m.jumps[k]=j by have:=HJJ.out;rw [List.getElem?_eq_getElem hlt] at this;injection this]
     rw [aJumps,HLK.out])
    have HE:=Lib.hid (show σ.endM m=none by unfold AsK.endM;rw [HJ.out,HN.out])
    have HB:=Lib.hid (GA.out.below H.out.low H.out.hB (by decide))
    clear hwa j0 j1 j2
    go_region_law (first
     | (go_simp;go_at_call 126;go_loud (
        with_reducible refine(HLN.out _ (by repeat' (first|with_reducible exact Below.refl _ _|with_reducible refine below_drewN ?_ _|with_reducible refine Below.drew ?_))).mono ?_
        intro e w5 hq
        rcases(show(e= .panicked [{ v:=stopA m.line 60,recovered:=false }]∧w5=wa.drew)∨(e= .returned (.int .i64 0)∧w5=wa.drew∧aLook m.labels j.lab=some 0) from .inl hq) with⟨rfl,rfl⟩ | ⟨rfl,rfl,hno⟩
        (have HB5:=Lib.hid (HB.out.trans ((Below.drew (Below.refl wa.heap.size wa)).mono (Nat.le_trans H.out.hB (Nat.le_trans (Nat.le_add_right _ 2) ZA.out))));clear hq;go_wp2_with fail;exact(show _∧_ from⟨rfl,lpost_no HE.out rfl HB5.out⟩))
        have HNO:=Lib.hid hno
        clear hq hno)))
    all_goals exact absurd (HLK.out.symm.trans HNO.out) (by simp)
   |some p=>
    have hpN:p≤N:=look_le HMS.out.places hlk
    have hjb:=HMS.out.jump j (List.mem_of_getElem? HJJ.out)
    clear hlk
    go_wp2_with fail
    obtain⟨wa,hwa⟩: ∃W,W=wr1.alloc (.cells #[.int .i64 (j.at':Int), .int .i64 (j.fr:Int), .string j.lab] 176):=⟨_,rfl⟩
    rw [←hwa]
    have BA:=Lib.hid (show Below wr1.heap.size wr1 wa by rw [hwa];exact(Below.refl _ _).alloc (Nat.le_refl _) _)
    have XF:=Lib.hid (show Bx wa wr1.heap.size [.int .i64 (j.at':Int), .int .i64 (j.fr:Int), .string j.lab] 176 by rw [hwa];exact bx_new_at _ _ _ _ (by simp))
    have KA:=Lib.hid (KR.out.below BA.out)
    have MA:=Lib.hid (MR.out.below BA.out)
    have GA:=Lib.hid (show Chg [1,2,3,4,5,6,7,8,9,10,11,12,13] w ρ wa ρ from(GR.out.trans (Chg.of_below BA.out)).mono (by simp))
    have XA2:=Lib.hid (XR2.out.below BA.out XR2.out.lt)
    have XA3:=Lib.hid (XR3.out.below BA.out XR3.out.lt)
    have ZA:=Lib.hid (show w.heap.size+2≤wa.heap.size from Nat.le_trans ZR.out BA.out.size)
    have HFL:=Lib.hid (show wr1.heap.size<wa.heap.size from XF.out.lt)
    have f0:=XF.out.cell 0 rfl
    have f1:=XF.out.cell 1 rfl
    have f2:=XF.out.cell 2 rfl
    have HLK2:=Lib.hid (fun n=>look_some w.heap.size (w.heap.size+1) xb ρ B { m with mv:={ m.mv with code:=code } } U j.lab p (wa.drewN n) (XA2.out.cell 0 rfl) (MA.out.below (below_drewN (Below.refl _ _) n)) (by have:=hjb.2.2;simp only [maxLen];omega) HLK.out)
    clear hwa j0 j1 j2
    have hd64:IntKind.i64.wrap ((p:Int) - (j.fr:Int))=(p:Int) - (j.fr:Int):=IntWalk.i64_in _ (by have:=hjb.2.1;omega)
    by_cases hin: -32768≤(p:Int) - (j.fr:Int)∧(p:Int) - (j.fr:Int)≤32767
    ·have HIN:=Lib.hid hin
     have h16:IntKind.i16.wrap ((p:Int) - (j.fr:Int))=(p:Int) - (j.fr:Int):=IntWalk.i16_in _ hin
     clear hin
     go_quiet ((go_at_call 126;exact Calls.quiet_of_same (HLK2.out _)))
     obtain⟨wb,hwb⟩: ∃W,W=wa.drewN nq:=⟨_,rfl⟩
     rw [←hwb]
     have BB:=Lib.hid (show Below wa.heap.size wa wb by rw [hwb];exact below_drewN (Below.refl _ _) _)
     have XB:=Lib.hid (XF.out.below BB.out XF.out.lt)
     have KB:=Lib.hid (KA.out.below BB.out)
     have MB:=Lib.hid (MA.out.below BB.out)
     have GB:=Lib.hid (show Chg [1,2,3,4,5,6,7,8,9,10,11,12,13] w ρ wb ρ from(GA.out.trans (Chg.of_below BB.out)).mono (by simp))
     have XB2:=Lib.hid (XA2.out.below BB.out XA2.out.lt)
     have XB3:=Lib.hid (XA3.out.below BB.out XA3.out.lt)
     have ZB:=Lib.hid (show w.heap.size+2≤wb.heap.size from Nat.le_trans ZA.out BB.out.size)
     clear hwb f0 f1 f2 hd64
     have f0:=XB.out.cell 0 rfl
     go_wp2_with fail
     have x6:=MB.out.box.cell 6 rfl
     obtain⟨gc,cc,hCc⟩: ∃gc cc,U.cv= .slice (some ⟨gc,0,none⟩) code.length cc:=by
      rcases Go.Joins.ownsRow_forms MB.out.code.1 with⟨_,h0⟩ | ⟨g,cap,e⟩
      ·exact absurd (show code.length=0 from h0) (by have:=hjb.1;omega)
      ·exact⟨g,cap,e⟩
     have HCC:=Lib.hid hCc
     have x6':wb.cell? ⟨xb,6,none⟩=some (.slice (some ⟨gc,0,none⟩) code.length cc):=by rw [←hCc];exact x6
     have ja:(j.at':Int) < (code.length:Int):=by have:=hjb.1;omega
     have jb:(j.at':Int)+1< (code.length:Int):=by have:=hjb.1;omega
     have b0:=XB2.out.cell 0 rfl
     clear x6
     have hrow:=MB.out.code.1
     rw [hCc] at hrow
     have ca:=hrow.cellAt j.at' (by have:=hjb.1;show j.at'<code.length*1;omega)
     have cb:=hrow.cellAt (j.at'+1) (by have:=hjb.1;show j.at'+1<code.length*1;omega)
     obtain⟨va,hva⟩: ∃v,wb.cell? ⟨gc,j.at',none⟩=some v:=⟨_,ca.trans (List.getElem?_eq_getElem (by simp;have:=hjb.1;omega))⟩
     obtain⟨vb,hvb⟩: ∃v,wb.cell? ⟨gc,j.at'+1,none⟩=some v:=⟨_,cb.trans (List.getElem?_eq_getElem (by simp;have:=hjb.1;omega))⟩
     have za:=hrow.frozenAt j.at'
     have zb:=hrow.frozenAt (j.at'+1)
     clear hrow ca cb
     have hc9:=HMS.out.code
     have hjl:=HMS.out.jumps
     have hg10:ρ gc=10:=MB.out.code.2 gc (by rw [show U.cv=_ from HCC.out];rfl)
     have n2:w.heap.size≠gc:=fun e=>by have h1:=R2.out;rw [e,hg10] at h1;omega
     have n6:xb≠gc:=fun e=>by have h1:=MB.out.xc;rw [e,hg10] at h1;omega
     have n0:wr1.heap.size≠gc:=fun e=>by have h1:=KR.out.low.fresh (Nat.le_refl wr1.heap.size);rw [e,hg10] at h1;omega
     refine region_sets _ w.heap.size xb wr1.heap.size gc code.length cc j.at' ((p:Int) - j.fr) va vb _ _ rfl rfl rfl rfl b0 x6' f0 (by have:=hjb.1;omega) (by have:=hjb.1;omega) hva hvb za zb n2 n6 n0 (fun _ _ _ _ _ h=>h) ?_
     intro b hzb hdb hkb
     obtain⟨wc,hwc⟩: ∃W,W=(wb.drew.setCell ⟨gc,j.at',none⟩ (.int .u8 (IntKind.u8.wrap (((p:Int) - j.fr)/256)))).setCell ⟨gc,j.at'+1,none⟩ (.int .u8 (IntKind.u8.wrap ((p:Int) - j.fr))):=⟨_,rfl⟩
     rw [←hwc]
     rw [wrap_byte,wrap_byte] at hwc
     have M1:=(MB.out.below (Below.refl wb.heap.size wb).drew).setB HCC.out j.at' (aByte (((p:Int) - j.fr)/256))
     have M2:=M1.1.setB HCC.out (j.at'+1) (aByte ((p:Int) - j.fr))
     rw [←hwc] at M2
     have MC:=Lib.hid M2.1
     have GD:=Lib.hid ((Chg.of_below (cs:= [10]) (ρ:=ρ) (Below.refl wb.heap.size wb).drew).trans (M1.2.trans M2.2))
     have KC:=Lib.hid (KB.out.keep GD.out (KB.out.low.mono GD.out.size) (by intro c h1 h2 hm;simp at hm;omega))
     have GC:=Lib.hid (GB.out.trans (GD.out.mono (by simp)))
     have XC2:=Lib.hid (GD.out.bx XB2.out (by rw [R2.out];decide))
     have XC3:=Lib.hid (GD.out.bx XB3.out (by rw [R3.out];decide))
     have ZC:=Lib.hid (show w.heap.size+2≤wc.heap.size from Nat.le_trans ZB.out GD.out.size)
     have HJ2:=Lib.hid (show aJumps m.labels m.jumps m.mv.code=aJumps m.labels (m.jumps.drop (k+1)) ((code.set j.at' (aByte (((p:Int) - j.fr)/256))).set (j.at'+1) (aByte ((p:Int) - j.fr))) by
      rw [HJ.out,List.drop_eq_getElem_cons hlt,show m.jumps[k]=j by have:=HJJ.out;rw [List.getElem?_eq_getElem hlt] at this;injection this]
      rw [aJumps,HLK.out]
      exact if_pos HIN.out)
     clear hwc M1 M2 b0 x6' f0 hva hvb za zb
     have hbe:=actA_chain _ b 42 22 (hk:=hkb) (hsz:=by rw [hzb];kernel_rfl) (hd:=hdb) (hln:=by show 64≤116;decide) (hn:=by decide)
     rw [show List.range 22= [0,1,2,3,4,5,6,7,8,9,10,11,12,13,14,15,16,17,18,19,20,21] from rfl] at hbe
     simp only [List.take_succ_cons,List.take_zero,List.drop_succ_cons,List.drop_zero,List.map_cons,List.map_nil,List.cons_append,List.nil_append,Nat.reduceAdd] at hbe
     rw [hbe]
     clear hbe hkb hzb hdb
     go_wp2_with fail
     go_roundw
     case rel=>exact⟨k+1,_,by go_num,by omega,by simp [hcl],HJ2,KC,MC,GC,ZC,XC2,XC3⟩
     case measure=>simp [RowKit.intOf];omega
    ·have h16:(((p:Int) - (j.fr:Int)) !=RowKit.wrap64 (IntKind.i16.wrap ((p:Int) - (j.fr:Int))))=true:=by
      have h1:=i16_range ((p:Int) - (j.fr:Int))
      rw [show RowKit.wrap64 (IntKind.i16.wrap ((p:Int) - (j.fr:Int)))=IntKind.i64.wrap (IntKind.i16.wrap ((p:Int) - (j.fr:Int))) from by unfold RowKit.wrap64;rw [IntKind.wrap_i64],IntWalk.i64_in _ (by omega),bne_iff_ne]
      intro e
      omega
     have HN:=Lib.hid (show aJumps m.labels (m.jumps.drop k) code=none by
      rw [List.drop_eq_getElem_cons hlt,show m.jumps[k]=j by have:=HJJ.out;rw [List.getElem?_eq_getElem hlt] at this;injection this]
      rw [aJumps,HLK.out]
      exact if_neg hin)
     clear hin
     go_quiet ((go_at_call 126;exact Calls.quiet_of_same (HLK2.out _)))
     clear hd64 f0 f1 f2
     have f0:=XA3.out.cell 0 rfl
     go_wp2_with (go_at_call 125;refine stop_here ?_)
     refine go_on ?_
     refine(missing_any w.heap.size xb { m with mv:={ m.mv with code:=code } } U _ ((XA2.out.below (below_drewN (Below.refl _ _) _) XA2.out.lt).cell 0 rfl) (MA.out.below (below_drewN (Below.refl _ _) _)).box).mono ?_
     rintro e w1 ⟨rfl,rfl⟩
     have HE:=Lib.hid (show σ.endM m=none by unfold AsK.endM;rw [HJ.out,HN.out])
     have HB:=Lib.hid (GA.out.below H.out.low H.out.hB (by decide))
     go_wp2_with fail
     exact(show _∧_ from⟨rfl,by rw [HE.out];exact⟨rfl,HB.out.trans (below_drewN (Below.refl _ _) _)⟩⟩)
  ·have hkl:k=m.jumps.length:=by omega
   have HC1:=Lib.hid (show aJumps m.labels m.jumps m.mv.code=some code by rw [HJ.out,hkl,List.drop_length];rfl)
   have MT0:=Lib.hid MR.out.toT
   have b0:=XR2.out.cell 0 rfl
   have x12:=MR.out.box.cell 12 rfl
   obtain⟨At,kt,htv⟩:=own_slice MR.out.traps.1
   have HTV:=Lib.hid htv
   have x12':wr1.cell? ⟨xb,12,none⟩=some (.slice At m.traps.length kt):=by rw [←htv];exact x12
   clear htv x12
   go_wp2_with fail
   go_loopw [9,70] (fun _ i wr=> ∃(k2:Nat) (ts:List TrapV) (ρ2:Nat→Nat) (tv:Value),i= .int .i64 k2∧k2≤m.traps.length∧ts.length=k2∧Hid ((aTraps m.labels m.traps)=(aTraps m.labels (m.traps.drop k2)).map (ts++ ·))∧Hid (MkC wr ρ2 B kb σ { V with mv:= .pointer none })∧Hid (MtT wr ρ2 B xb { m with mv:={ m.mv with code:=code } } U tv ts)∧Hid (Chg [1,2,3,4,5,6,7,8,9,10,11,12,13] w ρ wr ρ2)∧Hid (w.heap.size+2≤wr.heap.size)∧Hid (Bx wr w.heap.size [.pointer (some ⟨xb,0,none⟩)] 65)∧Hid (Bx wr (w.heap.size+1) [.func (.func 125) #[] #[.pointer (some ⟨w.heap.size,0,none⟩)]] 1)∧Hid (ρ2 w.heap.size=0∧ρ2 (w.heap.size+1)=0)) (fun _ i _=>m.traps.length - (RowKit.intOf i).toNat)
   case atStart=>exact⟨0, [],ρ, .slice none 0 0,rfl,by omega,rfl,Lib.hid (by rw [List.drop_zero];cases aTraps m.labels m.traps<;>simp),KR,MT0,GR,ZR,XR2,XR3,Lib.hid ⟨R2.out,R3.out⟩⟩
   case round=>
    obtain⟨wr2,hwr2⟩: ∃W,W=wr:=⟨_,rfl⟩
    subst hwr2
    obtain⟨k2,ts,ρ2,tv,rfl,hk2,htl,HT,K2,T2,G2,Z2,X22,X23,RR2⟩:=hrel
    have hTL:=HMS.out.traps
    by_cases hlt2:k2<m.traps.length
    ·obtain⟨t,ht⟩: ∃t,m.traps[k2]?=some t:=⟨_,List.getElem?_eq_getElem hlt2⟩
     obtain⟨gt,ct,hAt⟩: ∃gt ct,U.tv= .slice (some ⟨gt,0,none⟩) m.traps.length ct:=by
      rcases Go.Joins.ownsRow_forms T2.out.traps.1 with⟨_,h0⟩ | ⟨g,cap,e⟩
      ·exact absurd (show m.traps.length=0 from h0) (by omega)
      ·exact⟨g,cap,e⟩
     have hAe:At=some ⟨gt,0,none⟩∧kt=ct:=by
      have h1:=HTV.out
      rw [hAt] at h1
      injection h1 with h1 _ h2
      exact⟨h1.symm,h2.symm⟩
     obtain⟨rfl,rfl⟩:=hAe
     have hrow:=T2.out.traps.1
     rw [hAt] at hrow
     have hcells: ∀q,q<4→wr2.cell? ⟨gt,k2*4+q,none⟩=t.cells[q]?:=fun q hq=> (hrow.cellAt (k2*4+q) (by show k2*4+q<m.traps.length*4;omega)).trans (flat_at AsT.cells 4 (fun _=>rfl) _ k2 q t ht hq)
     have j0:=hcells 0 (by omega)
     have j1:=hcells 1 (by omega)
     have j2:=hcells 2 (by omega)
     have j3:=hcells 3 (by omega)
     simp only [AsT.cells,List.getElem?_cons_zero,List.getElem?_cons_succ,Nat.add_zero] at j0 j1 j2 j3
     have HTT:=Lib.hid ht
     have htk:=HMS.out.kinds t (List.mem_of_getElem? ht)
     have hgl:gt<wr2.heap.size:=(hrow.lt gt rfl).2
     clear hcells hrow ht
     go_wp2_with fail
     obtain⟨wa,hwa⟩: ∃W,W=wr2.alloc (.cells #[.string t.lo, .string t.hi, .string t.tg, .int .i64 (t.kind:Int)] 127):=⟨_,rfl⟩
     rw [←hwa]
     have BA:=Lib.hid (show Below wr2.heap.size wr2 wa by rw [hwa];exact(Below.refl _ _).alloc (Nat.le_refl _) _)
     have XT:=Lib.hid (show Bx wa wr2.heap.size t.cells 127 by rw [hwa];exact bx_new_at _ _ _ _ rfl)
     have KA:=Lib.hid (K2.out.below BA.out)
     have MA:=Lib.hid (T2.out.below BA.out)
     have GA:=Lib.hid (show Chg [1,2,3,4,5,6,7,8,9,10,11,12,13] w ρ wa ρ2 from(G2.out.trans (Chg.of_below BA.out)).mono (by simp))
     have XA2:=Lib.hid (X22.out.below BA.out X22.out.lt)
     have XA3:=Lib.hid (X23.out.below BA.out X23.out.lt)
     have ZA:=Lib.hid (show w.heap.size+2≤wa.heap.size from Nat.le_trans Z2.out BA.out.size)
     have hrt:=K2.out.low.fresh (Nat.le_refl wr2.heap.size)
     have hll:=HMS.out.labels
     clear hwa j0 j1 j2 j3
     refine region_trap _ ρ2 B w.heap.size (w.heap.size+1) xb wr2.heap.size { m with mv:={ m.mv with code:=code } } U tv ts t wa _ rfl rfl rfl rfl MA.out KA.out.low KA.out.hB XA2.out XA3.out XT.out RR2.out.1 hrt (by omega) htk.2.1 htk.2.2.1 htk.2.2.2 (fun _ _ _ _ _ h=>h) ?_ ?_
     ·intro b W' hdb hno hbw
      have HN:=Lib.hid (show aTraps m.labels m.traps=none by
       rw [HT.out,List.drop_eq_getElem_cons hlt2,show m.traps[k2]=t by have:=HTT.out;rw [List.getElem?_eq_getElem hlt2] at this;injection this]
       rw [traps_no hno]
       rfl)
      have HE:=Lib.hid (show σ.endM m=none by unfold AsK.endM;rw [HC1.out];simp only;rw [HN.out])
      have HB5:=Lib.hid ((GA.out.below H.out.low H.out.hB (by decide)).trans (hbw.mono (Nat.le_trans H.out.hB (Nat.le_trans (Nat.le_add_right _ 2) ZA.out))))
      clear hno hbw
      exact(show _∧_ from⟨hdb,lpost_no HE.out rfl HB5.out⟩)
     ·intro b W' ρ' tv' x1 x2 x3 hzb hdb hkb hl1 hl2 hl3 hM hC hL
      have HT2:=Lib.hid (show aTraps m.labels m.traps=(aTraps m.labels (m.traps.drop (k2+1))).map ((ts++ [⟨x1,x2,x3,t.kind⟩])++ ·) by
       rw [HT.out,List.drop_eq_getElem_cons hlt2,show m.traps[k2]=t by have:=HTT.out;rw [List.getElem?_eq_getElem hlt2] at this;injection this]
       exact traps_step hl1 hl2 hl3)
      have MC:=Lib.hid hM
      have GC:=Lib.hid (GA.out.trans (hC.mono (by simp)))
      have KC:=Lib.hid (KA.out.keep hC hL (by intro c h1 h2 hm;simp at hm;omega))
      have rr:ρ' w.heap.size=0∧ρ' (w.heap.size+1)=0:=⟨(hC.blk _ XA2.out.lt (by rw [RR2.out.1];decide)).2.trans RR2.out.1,(hC.blk _ XA3.out.lt (by rw [RR2.out.2];decide)).2.trans RR2.out.2⟩
      have XC2:=Lib.hid (hC.bx XA2.out (by rw [RR2.out.1];decide))
      have XC3:=Lib.hid (hC.bx XA3.out (by rw [RR2.out.2];decide))
      have ZC:=Lib.hid (show w.heap.size+2≤W'.heap.size from Nat.le_trans ZA.out hC.size)
      have RRC:=Lib.hid rr
      clear hl1 hl2 hl3 hM hC hL rr
      have hbe:=actA_chain _ b 74 26 (hk:=hkb) (hsz:=by rw [hzb];kernel_rfl) (hd:=hdb) (hln:=by show 100≤116;decide) (hn:=by decide)
      rw [show List.range 26= [0,1,2,3,4,5,6,7,8,9,10,11,12,13,14,15,16,17,18,19,20,21,22,23,24,25] from rfl] at hbe
      simp only [List.take_succ_cons,List.take_zero,List.drop_succ_cons,List.drop_zero,List.map_cons,List.map_nil,List.cons_append,List.nil_append,Nat.reduceAdd] at hbe
      rw [hbe]
      clear hbe hkb hzb hdb
      go_wp2_with fail
      go_roundw
      case rel=>exact⟨k2+1,_,ρ',tv',by go_num,by omega,by simp [htl],HT2,KC,MC,GC,ZC,XC2,XC3,RRC⟩
      case measure=>simp [RowKit.intOf];omega
    ·have hkl2:k2=m.traps.length:=by omega
     have HE:=Lib.hid (show σ.endM m=some { σ with m:=none,c:={ σ.c with mths:=σ.c.mths++ [{ m.mv with code:=code,traps:=ts }] } } by
      unfold AsK.endM
      rw [HC1.out]
      simp only
      rw [HT.out,hkl2,List.drop_length]
      simp [aTraps])
     have hml:=HS.out.nmths
     have hcl2:=HMS.out.code
     go_wp2_with fail
     refine region_meth _ ρ2 B kb w.heap.size xb σ { V with mv:= .pointer none } { m with mv:={ m.mv with code:=code } } U tv ts wr2 _ rfl rfl rfl K2.out T2.out X22.out RR2.out.1 (by show code.length≤1000000;omega) (by omega) (by omega) (fun _ _ _ _ _ h=>h) ?_
     intro b W' ρ' tv' hzb hdb hkb hM hC
     have KC:=Lib.hid hM
     have GC:=Lib.hid (G2.out.trans (hC.mono (by simp)))
     clear hM hC
     have hbe:=actA_chain _ b 101 15 (hk:=hkb) (hsz:=by rw [hzb];kernel_rfl) (hd:=hdb) (hln:=by show 116≤116;decide) (hn:=by decide)
     rw [show List.range 15= [0,1,2,3,4,5,6,7,8,9,10,11,12,13,14] from rfl] at hbe
     simp only [List.take_succ_cons,List.take_zero,List.drop_succ_cons,List.drop_zero,List.map_cons,List.map_nil,List.cons_append,List.nil_append,Nat.reduceAdd] at hbe
     rw [hbe]
     clear hbe hkb hzb hdb
     go_wp2_with fail
     refine⟨rfl, .tuple #[],by simp [results,Tryz.results54], ?_⟩
     exact lpost_some HE.out rfl (show MkC _ ρ' B kb { σ with m:=none,c:={ σ.c with mths:=σ.c.mths++ [{ m.mv with code:=code,traps:=ts }] } } _ from⟨KC.out.low,KC.out.hB,KC.out.box,KC.out.kc,KC.out.map,KC.out.mc,KC.out.pool,KC.out.ifs,KC.out.flds,KC.out.mths⟩) rfl GC.out
end Go.Proofs.YtlcidkiplidamaaGreatDoor
namespace Go.Proofs.YtlcidkiplidamaaGreatDoor
open Go Go.RowKit
theorem idxa0 (w:World) (k:IntKind) (cs:Array Value) (x:Int) (h0:0≤x) (hx:x< (7:Nat)) (hs:cs.size=7):(Instr.index 140 (.agg cs) (.int k x)).run Tryz.prog w= .ok (cs.getD x.toNat undef) w:=
 run_index_arr (n:=7) Tryz.underlying140 Tryz.underlying9 rfl info_string w k cs x h0 hx hs
theorem idxb0 (w:World) (k:IntKind) (cs:Array Value) (x:Int) (h0:0≤x) (hx:x< (15:Nat)) (hs:cs.size=15):(Instr.index 141 (.agg cs) (.int k x)).run Tryz.prog w= .ok (cs.getD x.toNat undef) w:=
 run_index_arr (n:=15) Tryz.underlying141 Tryz.underlying9 rfl info_string w k cs x h0 hx hs
attribute [local go_sem] idxa0 idxb0
theorem table_0 (w:World):Calls Tryz.prog 33 #[.int .i64 0] w fun e w'=>e= .returned (.agg #[.string ⟨(rowOf 0).1.toArray⟩, .string ⟨(rowOf 0).2.toArray⟩])∧Below w.heap.size w w':=by
 rw [rowOf_0]
 go_enter Tryz.func33,Tryz.ntmps33
 go_wp2
 refine bodyPost_ret (v:= .agg #[.string ⟨#[110,111,112]⟩, .string ⟨#[]⟩]) ?_ rfl ⟨rfl, ?_⟩
 ·simp [results,Tryz.results33,go_sem] <;>rfl
 ·repeat' (first|exact Below.refl _ _|refine Below.drew ?_|refine Below.alloc ?_ ?_ _|refine Below.setCell ?_ ?_ _| (simp;done) | (simp;omega))
theorem table_3 (w:World):Calls Tryz.prog 33 #[.int .i64 3] w fun e w'=>e= .returned (.agg #[.string ⟨(rowOf 3).1.toArray⟩, .string ⟨(rowOf 3).2.toArray⟩])∧Below w.heap.size w w':=by
 rw [rowOf_3]
 go_enter Tryz.func33,Tryz.ntmps33
 go_wp2
 refine bodyPost_ret (v:= .agg #[.string ⟨#[105,99,111,110,115,116,95,48]⟩, .string ⟨#[]⟩]) ?_ rfl ⟨rfl, ?_⟩
 ·simp [results,Tryz.results33,go_sem] <;>rfl
 ·repeat' (first|exact Below.refl _ _|refine Below.drew ?_|refine Below.alloc ?_ ?_ _|refine Below.setCell ?_ ?_ _| (simp;done) | (simp;omega))
theorem table_6 (w:World):Calls Tryz.prog 33 #[.int .i64 6] w fun e w'=>e= .returned (.agg #[.string ⟨(rowOf 6).1.toArray⟩, .string ⟨(rowOf 6).2.toArray⟩])∧Below w.heap.size w w':=by
 rw [rowOf_6]
 go_enter Tryz.func33,Tryz.ntmps33
 go_wp2
 refine bodyPost_ret (v:= .agg #[.string ⟨#[105,99,111,110,115,116,95,51]⟩, .string ⟨#[]⟩]) ?_ rfl ⟨rfl, ?_⟩
 ·simp [results,Tryz.results33,go_sem] <;>rfl
 ·repeat' (first|exact Below.refl _ _|refine Below.drew ?_|refine Below.alloc ?_ ?_ _|refine Below.setCell ?_ ?_ _| (simp;done) | (simp;omega))
theorem table_16 (w:World):Calls Tryz.prog 33 #[.int .i64 16] w fun e w'=>e= .returned (.agg #[.string ⟨(rowOf 16).1.toArray⟩, .string ⟨(rowOf 16).2.toArray⟩])∧Below w.heap.size w w':=by
 rw [rowOf_16]
 go_enter Tryz.func33,Tryz.ntmps33
 go_wp2
 refine bodyPost_ret (v:= .agg #[.string ⟨#[98,105,112,117,115,104]⟩, .string ⟨#[98]⟩]) ?_ rfl ⟨rfl, ?_⟩
 ·simp [results,Tryz.results33,go_sem] <;>rfl
 ·repeat' (first|exact Below.refl _ _|refine Below.drew ?_|refine Below.alloc ?_ ?_ _|refine Below.setCell ?_ ?_ _| (simp;done) | (simp;omega))
theorem table_21 (w:World):Calls Tryz.prog 33 #[.int .i64 21] w fun e w'=>e= .returned (.agg #[.string ⟨(rowOf 21).1.toArray⟩, .string ⟨(rowOf 21).2.toArray⟩])∧Below w.heap.size w w':=by
 rw [rowOf_21]
 go_enter Tryz.func33,Tryz.ntmps33
 go_wp2
 refine bodyPost_ret (v:= .agg #[.string ⟨#[105,108,111,97,100]⟩, .string ⟨#[117]⟩]) ?_ rfl ⟨rfl, ?_⟩
 ·simp [results,Tryz.results33,go_sem] <;>rfl
 ·repeat' (first|exact Below.refl _ _|refine Below.drew ?_|refine Below.alloc ?_ ?_ _|refine Below.setCell ?_ ?_ _| (simp;done) | (simp;omega))
theorem table_27 (w:World):Calls Tryz.prog 33 #[.int .i64 27] w fun e w'=>e= .returned (.agg #[.string ⟨(rowOf 27).1.toArray⟩, .string ⟨(rowOf 27).2.toArray⟩])∧Below w.heap.size w w':=by
 rw [rowOf_27]
 go_enter Tryz.func33,Tryz.ntmps33
 go_wp2
 refine bodyPost_ret (v:= .agg #[.string ⟨#[105,108,111,97,100,95,49]⟩, .string ⟨#[]⟩]) ?_ rfl ⟨rfl, ?_⟩
 ·simp [results,Tryz.results33,go_sem] <;>rfl
 ·repeat' (first|exact Below.refl _ _|refine Below.drew ?_|refine Below.alloc ?_ ?_ _|refine Below.setCell ?_ ?_ _| (simp;done) | (simp;omega))
theorem table_42 (w:World):Calls Tryz.prog 33 #[.int .i64 42] w fun e w'=>e= .returned (.agg #[.string ⟨(rowOf 42).1.toArray⟩, .string ⟨(rowOf 42).2.toArray⟩])∧Below w.heap.size w w':=by
 rw [rowOf_42]
 go_enter Tryz.func33,Tryz.ntmps33
 go_wp2
 refine bodyPost_ret (v:= .agg #[.string ⟨#[97,108,111,97,100,95,48]⟩, .string ⟨#[]⟩]) ?_ rfl ⟨rfl, ?_⟩
 ·simp [results,Tryz.results33,go_sem] <;>rfl
 ·repeat' (first|exact Below.refl _ _|refine Below.drew ?_|refine Below.alloc ?_ ?_ _|refine Below.setCell ?_ ?_ _| (simp;done) | (simp;omega))
theorem table_45 (w:World):Calls Tryz.prog 33 #[.int .i64 45] w fun e w'=>e= .returned (.agg #[.string ⟨(rowOf 45).1.toArray⟩, .string ⟨(rowOf 45).2.toArray⟩])∧Below w.heap.size w w':=by
 rw [rowOf_45]
 go_enter Tryz.func33,Tryz.ntmps33
 go_wp2
 refine bodyPost_ret (v:= .agg #[.string ⟨#[97,108,111,97,100,95,51]⟩, .string ⟨#[]⟩]) ?_ rfl ⟨rfl, ?_⟩
 ·simp [results,Tryz.results33,go_sem] <;>rfl
 ·repeat' (first|exact Below.refl _ _|refine Below.drew ?_|refine Below.alloc ?_ ?_ _|refine Below.setCell ?_ ?_ _| (simp;done) | (simp;omega))
theorem table_59 (w:World):Calls Tryz.prog 33 #[.int .i64 59] w fun e w'=>e= .returned (.agg #[.string ⟨(rowOf 59).1.toArray⟩, .string ⟨(rowOf 59).2.toArray⟩])∧Below w.heap.size w w':=by
 rw [rowOf_59]
 go_enter Tryz.func33,Tryz.ntmps33
 go_wp2
 refine bodyPost_ret (v:= .agg #[.string ⟨#[105,115,116,111,114,101,95,48]⟩, .string ⟨#[]⟩]) ?_ rfl ⟨rfl, ?_⟩
 ·simp [results,Tryz.results33,go_sem] <;>rfl
 ·repeat' (first|exact Below.refl _ _|refine Below.drew ?_|refine Below.alloc ?_ ?_ _|refine Below.setCell ?_ ?_ _| (simp;done) | (simp;omega))
theorem table_62 (w:World):Calls Tryz.prog 33 #[.int .i64 62] w fun e w'=>e= .returned (.agg #[.string ⟨(rowOf 62).1.toArray⟩, .string ⟨(rowOf 62).2.toArray⟩])∧Below w.heap.size w w':=by
 rw [rowOf_62]
 go_enter Tryz.func33,Tryz.ntmps33
 go_wp2
 refine bodyPost_ret (v:= .agg #[.string ⟨#[105,115,116,111,114,101,95,51]⟩, .string ⟨#[]⟩]) ?_ rfl ⟨rfl, ?_⟩
 ·simp [results,Tryz.results33,go_sem] <;>rfl
 ·repeat' (first|exact Below.refl _ _|refine Below.drew ?_|refine Below.alloc ?_ ?_ _|refine Below.setCell ?_ ?_ _| (simp;done) | (simp;omega))
theorem table_77 (w:World):Calls Tryz.prog 33 #[.int .i64 77] w fun e w'=>e= .returned (.agg #[.string ⟨(rowOf 77).1.toArray⟩, .string ⟨(rowOf 77).2.toArray⟩])∧Below w.heap.size w w':=by
 rw [rowOf_77]
 go_enter Tryz.func33,Tryz.ntmps33
 go_wp2
 refine bodyPost_ret (v:= .agg #[.string ⟨#[97,115,116,111,114,101,95,50]⟩, .string ⟨#[]⟩]) ?_ rfl ⟨rfl, ?_⟩
 ·simp [results,Tryz.results33,go_sem] <;>rfl
 ·repeat' (first|exact Below.refl _ _|refine Below.drew ?_|refine Below.alloc ?_ ?_ _|refine Below.setCell ?_ ?_ _| (simp;done) | (simp;omega))
theorem table_154 (w:World):Calls Tryz.prog 33 #[.int .i64 154] w fun e w'=>e= .returned (.agg #[.string ⟨(rowOf 154).1.toArray⟩, .string ⟨(rowOf 154).2.toArray⟩])∧Below w.heap.size w w':=by
 rw [rowOf_154]
 go_enter Tryz.func33,Tryz.ntmps33
 go_wp2
 refine bodyPost_ret (v:= .agg #[.string ⟨#[105,102,110,101]⟩, .string ⟨#[106]⟩]) ?_ rfl ⟨rfl, ?_⟩
 ·simp [results,Tryz.results33,go_sem] <;>rfl
 ·repeat' (first|exact Below.refl _ _|refine Below.drew ?_|refine Below.alloc ?_ ?_ _|refine Below.setCell ?_ ?_ _| (simp;done) | (simp;omega))
theorem table_157 (w:World):Calls Tryz.prog 33 #[.int .i64 157] w fun e w'=>e= .returned (.agg #[.string ⟨(rowOf 157).1.toArray⟩, .string ⟨(rowOf 157).2.toArray⟩])∧Below w.heap.size w w':=by
 rw [rowOf_157]
 go_enter Tryz.func33,Tryz.ntmps33
 go_wp2
 refine bodyPost_ret (v:= .agg #[.string ⟨#[105,102,103,116]⟩, .string ⟨#[106]⟩]) ?_ rfl ⟨rfl, ?_⟩
 ·simp [results,Tryz.results33,go_sem] <;>rfl
 ·repeat' (first|exact Below.refl _ _|refine Below.drew ?_|refine Below.alloc ?_ ?_ _|refine Below.setCell ?_ ?_ _| (simp;done) | (simp;omega))
theorem table_160 (w:World):Calls Tryz.prog 33 #[.int .i64 160] w fun e w'=>e= .returned (.agg #[.string ⟨(rowOf 160).1.toArray⟩, .string ⟨(rowOf 160).2.toArray⟩])∧Below w.heap.size w w':=by
 rw [rowOf_160]
 go_enter Tryz.func33,Tryz.ntmps33
 go_wp2
 refine bodyPost_ret (v:= .agg #[.string ⟨#[105,102,95,105,99,109,112,110,101]⟩, .string ⟨#[106]⟩]) ?_ rfl ⟨rfl, ?_⟩
 ·simp [results,Tryz.results33,go_sem] <;>rfl
 ·repeat' (first|exact Below.refl _ _|refine Below.drew ?_|refine Below.alloc ?_ ?_ _|refine Below.setCell ?_ ?_ _| (simp;done) | (simp;omega))
theorem table_163 (w:World):Calls Tryz.prog 33 #[.int .i64 163] w fun e w'=>e= .returned (.agg #[.string ⟨(rowOf 163).1.toArray⟩, .string ⟨(rowOf 163).2.toArray⟩])∧Below w.heap.size w w':=by
 rw [rowOf_163]
 go_enter Tryz.func33,Tryz.ntmps33
 go_wp2
 refine bodyPost_ret (v:= .agg #[.string ⟨#[105,102,95,105,99,109,112,103,116]⟩, .string ⟨#[106]⟩]) ?_ rfl ⟨rfl, ?_⟩
 ·simp [results,Tryz.results33,go_sem] <;>rfl
 ·repeat' (first|exact Below.refl _ _|refine Below.drew ?_|refine Below.alloc ?_ ?_ _|refine Below.setCell ?_ ?_ _| (simp;done) | (simp;omega))
theorem table_166 (w:World):Calls Tryz.prog 33 #[.int .i64 166] w fun e w'=>e= .returned (.agg #[.string ⟨(rowOf 166).1.toArray⟩, .string ⟨(rowOf 166).2.toArray⟩])∧Below w.heap.size w w':=by
 rw [rowOf_166]
 go_enter Tryz.func33,Tryz.ntmps33
 go_wp2
 refine bodyPost_ret (v:= .agg #[.string ⟨#[105,102,95,97,99,109,112,110,101]⟩, .string ⟨#[106]⟩]) ?_ rfl ⟨rfl, ?_⟩
 ·simp [results,Tryz.results33,go_sem] <;>rfl
 ·repeat' (first|exact Below.refl _ _|refine Below.drew ?_|refine Below.alloc ?_ ?_ _|refine Below.setCell ?_ ?_ _| (simp;done) | (simp;omega))
theorem idxa1 (w:World) (k:IntKind) (cs:Array Value) (x:Int) (h0:0≤x) (hx:x< (7:Nat)) (hs:cs.size=7):(Instr.index 140 (.agg cs) (.int k x)).run Tryz.prog w= .ok (cs.getD x.toNat undef) w:=
 run_index_arr (n:=7) Tryz.underlying140 Tryz.underlying9 rfl info_string w k cs x h0 hx hs
theorem idxb1 (w:World) (k:IntKind) (cs:Array Value) (x:Int) (h0:0≤x) (hx:x< (15:Nat)) (hs:cs.size=15):(Instr.index 141 (.agg cs) (.int k x)).run Tryz.prog w= .ok (cs.getD x.toNat undef) w:=
 run_index_arr (n:=15) Tryz.underlying141 Tryz.underlying9 rfl info_string w k cs x h0 hx hs
attribute [local go_sem] idxa1 idxb1
theorem table_1 (w:World):Calls Tryz.prog 33 #[.int .i64 1] w fun e w'=>e= .returned (.agg #[.string ⟨(rowOf 1).1.toArray⟩, .string ⟨(rowOf 1).2.toArray⟩])∧Below w.heap.size w w':=by
 rw [rowOf_1]
 go_enter Tryz.func33,Tryz.ntmps33
 go_wp2
 refine bodyPost_ret (v:= .agg #[.string ⟨#[97,99,111,110,115,116,95,110,117,108,108]⟩, .string ⟨#[]⟩]) ?_ rfl ⟨rfl, ?_⟩
 ·simp [results,Tryz.results33,go_sem] <;>rfl
 ·repeat' (first|exact Below.refl _ _|refine Below.drew ?_|refine Below.alloc ?_ ?_ _|refine Below.setCell ?_ ?_ _| (simp;done) | (simp;omega))
theorem table_4 (w:World):Calls Tryz.prog 33 #[.int .i64 4] w fun e w'=>e= .returned (.agg #[.string ⟨(rowOf 4).1.toArray⟩, .string ⟨(rowOf 4).2.toArray⟩])∧Below w.heap.size w w':=by
 rw [rowOf_4]
 go_enter Tryz.func33,Tryz.ntmps33
 go_wp2
 refine bodyPost_ret (v:= .agg #[.string ⟨#[105,99,111,110,115,116,95,49]⟩, .string ⟨#[]⟩]) ?_ rfl ⟨rfl, ?_⟩
 ·simp [results,Tryz.results33,go_sem] <;>rfl
 ·repeat' (first|exact Below.refl _ _|refine Below.drew ?_|refine Below.alloc ?_ ?_ _|refine Below.setCell ?_ ?_ _| (simp;done) | (simp;omega))
theorem table_7 (w:World):Calls Tryz.prog 33 #[.int .i64 7] w fun e w'=>e= .returned (.agg #[.string ⟨(rowOf 7).1.toArray⟩, .string ⟨(rowOf 7).2.toArray⟩])∧Below w.heap.size w w':=by
 rw [rowOf_7]
 go_enter Tryz.func33,Tryz.ntmps33
 go_wp2
 refine bodyPost_ret (v:= .agg #[.string ⟨#[105,99,111,110,115,116,95,52]⟩, .string ⟨#[]⟩]) ?_ rfl ⟨rfl, ?_⟩
 ·simp [results,Tryz.results33,go_sem] <;>rfl
 ·repeat' (first|exact Below.refl _ _|refine Below.drew ?_|refine Below.alloc ?_ ?_ _|refine Below.setCell ?_ ?_ _| (simp;done) | (simp;omega))
theorem table_17 (w:World):Calls Tryz.prog 33 #[.int .i64 17] w fun e w'=>e= .returned (.agg #[.string ⟨(rowOf 17).1.toArray⟩, .string ⟨(rowOf 17).2.toArray⟩])∧Below w.heap.size w w':=by
 rw [rowOf_17]
 go_enter Tryz.func33,Tryz.ntmps33
 go_wp2
 refine bodyPost_ret (v:= .agg #[.string ⟨#[115,105,112,117,115,104]⟩, .string ⟨#[115]⟩]) ?_ rfl ⟨rfl, ?_⟩
 ·simp [results,Tryz.results33,go_sem] <;>rfl
 ·repeat' (first|exact Below.refl _ _|refine Below.drew ?_|refine Below.alloc ?_ ?_ _|refine Below.setCell ?_ ?_ _| (simp;done) | (simp;omega))
theorem table_25 (w:World):Calls Tryz.prog 33 #[.int .i64 25] w fun e w'=>e= .returned (.agg #[.string ⟨(rowOf 25).1.toArray⟩, .string ⟨(rowOf 25).2.toArray⟩])∧Below w.heap.size w w':=by
 rw [rowOf_25]
 go_enter Tryz.func33,Tryz.ntmps33
 go_wp2
 refine bodyPost_ret (v:= .agg #[.string ⟨#[97,108,111,97,100]⟩, .string ⟨#[117]⟩]) ?_ rfl ⟨rfl, ?_⟩
 ·simp [results,Tryz.results33,go_sem] <;>rfl
 ·repeat' (first|exact Below.refl _ _|refine Below.drew ?_|refine Below.alloc ?_ ?_ _|refine Below.setCell ?_ ?_ _| (simp;done) | (simp;omega))
theorem table_28 (w:World):Calls Tryz.prog 33 #[.int .i64 28] w fun e w'=>e= .returned (.agg #[.string ⟨(rowOf 28).1.toArray⟩, .string ⟨(rowOf 28).2.toArray⟩])∧Below w.heap.size w w':=by
 rw [rowOf_28]
 go_enter Tryz.func33,Tryz.ntmps33
 go_wp2
 refine bodyPost_ret (v:= .agg #[.string ⟨#[105,108,111,97,100,95,50]⟩, .string ⟨#[]⟩]) ?_ rfl ⟨rfl, ?_⟩
 ·simp [results,Tryz.results33,go_sem] <;>rfl
 ·repeat' (first|exact Below.refl _ _|refine Below.drew ?_|refine Below.alloc ?_ ?_ _|refine Below.setCell ?_ ?_ _| (simp;done) | (simp;omega))
theorem table_43 (w:World):Calls Tryz.prog 33 #[.int .i64 43] w fun e w'=>e= .returned (.agg #[.string ⟨(rowOf 43).1.toArray⟩, .string ⟨(rowOf 43).2.toArray⟩])∧Below w.heap.size w w':=by
 rw [rowOf_43]
 go_enter Tryz.func33,Tryz.ntmps33
 go_wp2
 refine bodyPost_ret (v:= .agg #[.string ⟨#[97,108,111,97,100,95,49]⟩, .string ⟨#[]⟩]) ?_ rfl ⟨rfl, ?_⟩
 ·simp [results,Tryz.results33,go_sem] <;>rfl
 ·repeat' (first|exact Below.refl _ _|refine Below.drew ?_|refine Below.alloc ?_ ?_ _|refine Below.setCell ?_ ?_ _| (simp;done) | (simp;omega))
theorem table_54 (w:World):Calls Tryz.prog 33 #[.int .i64 54] w fun e w'=>e= .returned (.agg #[.string ⟨(rowOf 54).1.toArray⟩, .string ⟨(rowOf 54).2.toArray⟩])∧Below w.heap.size w w':=by
 rw [rowOf_54]
 go_enter Tryz.func33,Tryz.ntmps33
 go_wp2
 refine bodyPost_ret (v:= .agg #[.string ⟨#[105,115,116,111,114,101]⟩, .string ⟨#[117]⟩]) ?_ rfl ⟨rfl, ?_⟩
 ·simp [results,Tryz.results33,go_sem] <;>rfl
 ·repeat' (first|exact Below.refl _ _|refine Below.drew ?_|refine Below.alloc ?_ ?_ _|refine Below.setCell ?_ ?_ _| (simp;done) | (simp;omega))
theorem table_60 (w:World):Calls Tryz.prog 33 #[.int .i64 60] w fun e w'=>e= .returned (.agg #[.string ⟨(rowOf 60).1.toArray⟩, .string ⟨(rowOf 60).2.toArray⟩])∧Below w.heap.size w w':=by
 rw [rowOf_60]
 go_enter Tryz.func33,Tryz.ntmps33
 go_wp2
 refine bodyPost_ret (v:= .agg #[.string ⟨#[105,115,116,111,114,101,95,49]⟩, .string ⟨#[]⟩]) ?_ rfl ⟨rfl, ?_⟩
 ·simp [results,Tryz.results33,go_sem] <;>rfl
 ·repeat' (first|exact Below.refl _ _|refine Below.drew ?_|refine Below.alloc ?_ ?_ _|refine Below.setCell ?_ ?_ _| (simp;done) | (simp;omega))
theorem table_75 (w:World):Calls Tryz.prog 33 #[.int .i64 75] w fun e w'=>e= .returned (.agg #[.string ⟨(rowOf 75).1.toArray⟩, .string ⟨(rowOf 75).2.toArray⟩])∧Below w.heap.size w w':=by
 rw [rowOf_75]
 go_enter Tryz.func33,Tryz.ntmps33
 go_wp2
 refine bodyPost_ret (v:= .agg #[.string ⟨#[97,115,116,111,114,101,95,48]⟩, .string ⟨#[]⟩]) ?_ rfl ⟨rfl, ?_⟩
 ·simp [results,Tryz.results33,go_sem] <;>rfl
 ·repeat' (first|exact Below.refl _ _|refine Below.drew ?_|refine Below.alloc ?_ ?_ _|refine Below.setCell ?_ ?_ _| (simp;done) | (simp;omega))
theorem table_78 (w:World):Calls Tryz.prog 33 #[.int .i64 78] w fun e w'=>e= .returned (.agg #[.string ⟨(rowOf 78).1.toArray⟩, .string ⟨(rowOf 78).2.toArray⟩])∧Below w.heap.size w w':=by
 rw [rowOf_78]
 go_enter Tryz.func33,Tryz.ntmps33
 go_wp2
 refine bodyPost_ret (v:= .agg #[.string ⟨#[97,115,116,111,114,101,95,51]⟩, .string ⟨#[]⟩]) ?_ rfl ⟨rfl, ?_⟩
 ·simp [results,Tryz.results33,go_sem] <;>rfl
 ·repeat' (first|exact Below.refl _ _|refine Below.drew ?_|refine Below.alloc ?_ ?_ _|refine Below.setCell ?_ ?_ _| (simp;done) | (simp;omega))
theorem table_155 (w:World):Calls Tryz.prog 33 #[.int .i64 155] w fun e w'=>e= .returned (.agg #[.string ⟨(rowOf 155).1.toArray⟩, .string ⟨(rowOf 155).2.toArray⟩])∧Below w.heap.size w w':=by
 rw [rowOf_155]
 go_enter Tryz.func33,Tryz.ntmps33
 go_wp2
 refine bodyPost_ret (v:= .agg #[.string ⟨#[105,102,108,116]⟩, .string ⟨#[106]⟩]) ?_ rfl ⟨rfl, ?_⟩
 ·simp [results,Tryz.results33,go_sem] <;>rfl
 ·repeat' (first|exact Below.refl _ _|refine Below.drew ?_|refine Below.alloc ?_ ?_ _|refine Below.setCell ?_ ?_ _| (simp;done) | (simp;omega))
theorem table_158 (w:World):Calls Tryz.prog 33 #[.int .i64 158] w fun e w'=>e= .returned (.agg #[.string ⟨(rowOf 158).1.toArray⟩, .string ⟨(rowOf 158).2.toArray⟩])∧Below w.heap.size w w':=by
 rw [rowOf_158]
 go_enter Tryz.func33,Tryz.ntmps33
 go_wp2
 refine bodyPost_ret (v:= .agg #[.string ⟨#[105,102,108,101]⟩, .string ⟨#[106]⟩]) ?_ rfl ⟨rfl, ?_⟩
 ·simp [results,Tryz.results33,go_sem] <;>rfl
 ·repeat' (first|exact Below.refl _ _|refine Below.drew ?_|refine Below.alloc ?_ ?_ _|refine Below.setCell ?_ ?_ _| (simp;done) | (simp;omega))
theorem table_161 (w:World):Calls Tryz.prog 33 #[.int .i64 161] w fun e w'=>e= .returned (.agg #[.string ⟨(rowOf 161).1.toArray⟩, .string ⟨(rowOf 161).2.toArray⟩])∧Below w.heap.size w w':=by
 rw [rowOf_161]
 go_enter Tryz.func33,Tryz.ntmps33
 go_wp2
 refine bodyPost_ret (v:= .agg #[.string ⟨#[105,102,95,105,99,109,112,108,116]⟩, .string ⟨#[106]⟩]) ?_ rfl ⟨rfl, ?_⟩
 ·simp [results,Tryz.results33,go_sem] <;>rfl
 ·repeat' (first|exact Below.refl _ _|refine Below.drew ?_|refine Below.alloc ?_ ?_ _|refine Below.setCell ?_ ?_ _| (simp;done) | (simp;omega))
theorem table_164 (w:World):Calls Tryz.prog 33 #[.int .i64 164] w fun e w'=>e= .returned (.agg #[.string ⟨(rowOf 164).1.toArray⟩, .string ⟨(rowOf 164).2.toArray⟩])∧Below w.heap.size w w':=by
 rw [rowOf_164]
 go_enter Tryz.func33,Tryz.ntmps33
 go_wp2
 refine bodyPost_ret (v:= .agg #[.string ⟨#[105,102,95,105,99,109,112,108,101]⟩, .string ⟨#[106]⟩]) ?_ rfl ⟨rfl, ?_⟩
 ·simp [results,Tryz.results33,go_sem] <;>rfl
 ·repeat' (first|exact Below.refl _ _|refine Below.drew ?_|refine Below.alloc ?_ ?_ _|refine Below.setCell ?_ ?_ _| (simp;done) | (simp;omega))
theorem table_167 (w:World):Calls Tryz.prog 33 #[.int .i64 167] w fun e w'=>e= .returned (.agg #[.string ⟨(rowOf 167).1.toArray⟩, .string ⟨(rowOf 167).2.toArray⟩])∧Below w.heap.size w w':=by
 rw [rowOf_167]
 go_enter Tryz.func33,Tryz.ntmps33
 go_wp2
 refine bodyPost_ret (v:= .agg #[.string ⟨#[103,111,116,111]⟩, .string ⟨#[106]⟩]) ?_ rfl ⟨rfl, ?_⟩
 ·simp [results,Tryz.results33,go_sem] <;>rfl
 ·repeat' (first|exact Below.refl _ _|refine Below.drew ?_|refine Below.alloc ?_ ?_ _|refine Below.setCell ?_ ?_ _| (simp;done) | (simp;omega))
end Go.Proofs.YtlcidkiplidamaaGreatDoor
