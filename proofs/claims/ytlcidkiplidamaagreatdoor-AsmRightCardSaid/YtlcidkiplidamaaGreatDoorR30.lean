/-
  What the laws rest on, part 30: walks of the program's functions and plain laws. Conditions: none but those that each theorem names.
-/
import Derived.Test.YtlcidkiplidamaaGreatDoorR25
import Derived.Test.YtlcidkiplidamaaGreatDoorR27
import Derived.Deep.AppendLies
import Derived.Deep.RegionHeld2
import Derived.Deep.Cut
import Derived.Deep.CutRange
import Derived.Deep.DeepCutAuto
import Derived.Test.YtlcidkiplidamaaGreatDoorR18
import Derived.Laws.EntriesVeiled
import Derived.WalkMore
import Derived.Lib.SmallJoins
import Derived.BigRegion
import Derived.RegionTactic
set_option linter.unusedSimpArgs false
set_option linter.unusedVariables false
set_option maxRecDepth 100000
set_option maxHeartbeats 16000000
namespace Go.Proofs.YtlcidkiplidamaaGreatDoor
open Go Go.RowKit Lib Go.Maps
def trS (p2 xb tb:Nat) (t:AsT) (w':World):Prop:=w'.cell? ⟨p2,0,none⟩=some (.pointer (some ⟨xb,0,none⟩))∧w'.cell? ⟨tb,0,none⟩=some (.string t.lo)∧w'.cell? ⟨tb,1,none⟩=some (.string t.hi)∧w'.cell? ⟨tb,2,none⟩=some (.string t.tg)∧w'.cell? ⟨tb,3,none⟩=some (.int .i64 t.kind)
theorem trS_k {p2 xb tb:Nat} {t:AsT} {w w':World} (h:trS p2 xb tb t w) (h2:w'.heap[p2]?=w.heap[p2]?) (ht:w'.heap[tb]?=w.heap[tb]?):trS p2 xb tb t w':=
 ⟨(World.cell?_of_block h2).trans h.1,(World.cell?_of_block ht).trans h.2.1,(World.cell?_of_block ht).trans h.2.2.1,(World.cell?_of_block ht).trans h.2.2.2.1,(World.cell?_of_block ht).trans h.2.2.2.2⟩
theorem value_one {w:World} {ρ:Nat→Nat} {B xb:Nat} {m:AsM} {U:MtV} {tv:Value} {ts:List TrapV} (h:MtT w ρ B xb m U tv ts):U.cv.oneCell'=true∧tv.oneCell'=true:=by
 obtain⟨A1,c1,e1⟩:=own_slice h.code.1
 obtain⟨A2,c2,e2⟩:=own_slice h.tr.1
 rw [e1,e2]
 exact⟨rfl,rfl⟩
theorem flat_at {α:Type} (f:α→List Value) (n:Nat) (hf: ∀x,(f x).length=n): ∀(l:List α) (k q:Nat) (x:α),l[k]?=some x→q<n→(l.flatMap f)[k*n+q]?=(f x)[q]?
 | [],k,q,x,h,_=>by cases h
 |a::l,0,q,x,h,hq=>by
  cases h
  rw [List.flatMap_cons,Nat.zero_mul,Nat.zero_add,List.getElem?_append_left (by rw [hf];exact hq)]
 |a::l,k+1,q,x,h,hq=>by
  rw [List.flatMap_cons,List.getElem?_append_right (by rw [hf,Nat.succ_mul];omega),hf,show(k+1)*n+q - n=k*n+q by rw [Nat.succ_mul];omega]
  exact flat_at f n hf l k q x (by simpa using h) hq
theorem lpost_no {cs:List Nat} {w w':World} {ρ:Nat→Nat} {B kb line:Nat} {p:Option AsK} {e:Ending} (hp:p=none) (he:e= .panicked [{ v:=stopA line 60,recovered:=false }]) (hb:Below B w w'):LPost cs w ρ B kb line p e w':=by
 subst hp
 exact⟨he,hb⟩
theorem i16_range (n:Int): -32768≤IntKind.i16.wrap n∧IntKind.i16.wrap n≤32767:=by
 simp only [IntKind.wrap,IntKind.bits,IntKind.signed];simp;split<;>omega
theorem end_any (ρ:Nat→Nat) (B kb xb:Nat) (σ:AsK) (V:MkV) (m:AsM) (U:MtV) (w:World) (N:Nat) (hK:MkC w ρ B kb σ V) (hV:V.mv= .pointer (some ⟨xb,0,none⟩)) (hM:MtC w ρ B xb m U) (hS:AsSm σ N) (hMS:AsMSm m N) (hN:N≤900000):
  Calls Tryz.prog 54 #[.pointer (some ⟨kb,0,none⟩)] w (LPost [1,2,3,4,5,6,7,8,9,10,11,12,13] w ρ B kb m.line (σ.endM m)):=by
 have hmf: ∀(fn:Fn) (first cap:Array Value) (w:World),(Instr.makeFunc fn first cap).run Tryz.prog w= .ok (.func fn first cap) w:=fun _ _ _ _=>rfl
 have H:=Lib.hid hK
 have HV:=Lib.hid hV
 have HM:=Lib.hid hM
 have HS:=Lib.hid hS
 have HMS:=Lib.hid hMS
 have hkl:=hK.box.lt
 have hxl:=hM.box.lt
 have hB:=hK.hB
 have c12:=hK.box.cell 12 rfl
 have z12:=hK.box.frozen 12
 rw [hV] at c12
 have hx11:=hM.box.cell 11 rfl
 have hkx: ¬kb=xb:=fun e=>by have h1:=hK.kc;rw [e,hM.xc] at h1;omega
 have hxk: ¬xb=kb:=fun e=>hkx e.symm
 obtain⟨y1,y2,y3,y4,y5,y6,y7,y8,y9,y10,y11,y12⟩:=far kb w.heap.size hkl
 obtain⟨v1,v2,v3,v4,v5,v6,v7,v8,v9,v10,v11,v12⟩:=far xb w.heap.size hxl
 obtain⟨Aj,kj,hjv⟩:=own_slice hM.jumps.1
 have HJV:=Lib.hid hjv
 have x11:w.cell? ⟨xb,11,none⟩=some (.slice Aj m.jumps.length kj):=by rw [←hjv];exact hx11
 clear hx11 hK hV hM hS hMS hjv
 go_enter Tryz.func54,Tryz.ntmps54
 go_wp2_with fail
 obtain⟨w0,hw0⟩: ∃W,W=((w.setCell ⟨kb,12,none⟩ (.pointer none)).alloc (.cells #[.pointer (some ⟨xb,0,none⟩)] 65)).alloc (.cells #[.func (.func 125) #[] #[.pointer (some ⟨w.heap.size,0,none⟩)]] 1):=⟨_,rfl⟩
 rw [←hw0]
 have S0:=Lib.hid (H.out.setc 12 (.pointer none) (σ':=σ) (V':={ V with mv:= .pointer none }) rfl rfl rfl rfl rfl ⟨rfl,rfl,rfl,rfl,rfl⟩)
 have B0:=Lib.hid (show Below (w.setCell ⟨kb,12,none⟩ (.pointer none)).heap.size (w.setCell ⟨kb,12,none⟩ (.pointer none)) w0 by rw [hw0];exact((Below.refl _ _).alloc (Nat.le_refl _) _).alloc (by simp) _)
 have K0:=Lib.hid (S0.out.1.below B0.out)
 have M0:=Lib.hid ((HM.out.keep S0.out.2 (by intro c h1 h2 hm;simp at hm;omega)).below B0.out)
 have G0:=Lib.hid (show Chg [1,2,3,4,5,6,7,8,9,10,11,12,13] w ρ w0 ρ from(S0.out.2.trans (Chg.of_below B0.out)).mono (by simp))
 have X2:=Lib.hid (show Bx w0 w.heap.size [.pointer (some ⟨xb,0,none⟩)] 65 by rw [hw0];exact(bx_new_at _ _ _ _ (by simp)).below ((Below.refl _ _).alloc (Nat.le_refl _) _) (by simp))
 have X3:=Lib.hid (show Bx w0 (w.heap.size+1) [.func (.func 125) #[] #[.pointer (some ⟨w.heap.size,0,none⟩)]] 1 by rw [hw0];exact bx_new_at _ _ _ _ (by simp))
 have hz0:w0.heap.size=w.heap.size+2:=by rw [hw0];simp
 have HZ0:=Lib.hid hz0
 have R2:=Lib.hid (H.out.low.fresh (Nat.le_refl w.heap.size))
 have R3:=Lib.hid (H.out.low.fresh (show w.heap.size≤w.heap.size+1 by omega))
 clear hw0 hz0 c12 z12 x11
 go_loopw [6,7,24] (fun _ _ i wr=> ∃(k:Nat) (code:List UInt8),i= .int .i64 k∧k≤m.jumps.length∧code.length=m.mv.code.length∧Hid (aJumps m.labels m.jumps m.mv.code=aJumps m.labels (m.jumps.drop k) code)∧Hid (MkC wr ρ B kb σ { V with mv:= .pointer none })∧Hid (MtC wr ρ B xb { m with mv:={ m.mv with code:=code } } U)∧Hid (Chg [1,2,3,4,5,6,7,8,9,10,11,12,13] w ρ wr ρ)∧Hid (w.heap.size+2≤wr.heap.size)∧Hid (Bx wr w.heap.size [.pointer (some ⟨xb,0,none⟩)] 65)∧Hid (Bx wr (w.heap.size+1) [.func (.func 125) #[] #[.pointer (some ⟨w.heap.size,0,none⟩)]] 1)) (fun _ _ i _=>m.jumps.length - (RowKit.intOf i).toNat)
 case atStart=>exact⟨0,m.mv.code,rfl,by omega,rfl,Lib.hid rfl,K0,M0,G0,Lib.hid (by rw [HZ0.out];exact Nat.le_refl _),X2,X3⟩
 case round=>
  obtain⟨wr1,hwr⟩: ∃W,W=wr:=⟨_,rfl⟩
  subst hwr
  obtain⟨k,code,rfl,hk,hcl,HJ,KR,MR,GR,ZR,XR2,XR3⟩:=hrel
  by_cases hlt:k<m.jumps.length
  ·obtain⟨j,hj⟩: ∃j,m.jumps[k]?=some j:=⟨_,List.getElem?_eq_getElem hlt⟩
   obtain⟨gj,cj,hAj⟩: ∃gj cj,U.jv= .slice (some ⟨gj,0,none⟩) m.jumps.length cj:=by
    rcases Go.Joins.ownsRow_forms MR.out.jumps.1 with⟨_,h0⟩ | ⟨g,cap,e⟩
    ·exact absurd (show m.jumps.length=0 from h0) (by omega)
    ·exact⟨g,cap,e⟩
   have hAe:Aj=some ⟨gj,0,none⟩∧kj=cj:=by
    have h1:=HJV.out
    rw [hAj] at h1
    injection h1 with h1 _ h2
    exact⟨h1.symm,h2.symm⟩
   obtain⟨rfl,rfl⟩:=hAe
   have hrow:=MR.out.jumps.1
   rw [hAj] at hrow
   have hcells: ∀q,q<3→wr1.cell? ⟨gj,k*3+q,none⟩=j.cells[q]?:=fun q hq=> (hrow.cellAt (k*3+q) (by show k*3+q<m.jumps.length*3;omega)).trans (flat_at AsF.cells 3 (fun _=>rfl) _ k q j hj hq)
   have j0:=hcells 0 (by omega)
   have j1:=hcells 1 (by omega)
   have j2:=hcells 2 (by omega)
   simp only [AsF.cells,List.getElem?_cons_zero,List.getElem?_cons_succ,Nat.add_zero] at j0 j1 j2
   have HJJ:=Lib.hid hj
   have hgl:gj<wr1.heap.size:=(hrow.lt gj rfl).2
   clear hcells hrow hj
   obtain⟨lk,hlk⟩: ∃lk,aLook m.labels j.lab=lk:=⟨_,rfl⟩
   have HLK:=Lib.hid hlk
   cases lk with
   |none=>
    have hjb:=HMS.out.jump j (List.mem_of_getElem? HJJ.out)
    clear hlk
    go_wp2_with fail
    obtain⟨wa,hwa⟩: ∃W,W=wr1.alloc (.cells #[.int .i64 (j.at':Int), .int .i64 (j.fr:Int), .string j.lab] 176):=⟨_,rfl⟩
    rw [←hwa]
    have BA:=Lib.hid (show Below wr1.heap.size wr1 wa by rw [hwa];exact(Below.refl _ _).alloc (Nat.le_refl _) _)
    have XF:=Lib.hid (show Bx wa wr1.heap.size [.int .i64 (j.at':Int), .int .i64 (j.fr:Int), .string j.lab] 176 by rw [hwa];exact bx_new_at _ _ _ _ (by simp))
    have KA:=Lib.hid (KR.out.below BA.out)
    have MA:=Lib.hid (MR.out.below BA.out)
    have GA:=Lib.hid (show Chg [1,2,3,4,5,6,7,8,9,10,11,12,13] w ρ wa ρ from(GR.out.trans (Chg.of_below BA.out)).mono (by simp))
    have XA2:=Lib.hid (XR2.out.below BA.out XR2.out.lt)
    have XA3:=Lib.hid (XR3.out.below BA.out XR3.out.lt)
    have ZA:=Lib.hid (show w.heap.size+2≤wa.heap.size from Nat.le_trans ZR.out BA.out.size)
    have HFL:=Lib.hid (show wr1.heap.size<wa.heap.size from XF.out.lt)
    have f0:=XF.out.cell 0 rfl
    have f1:=XF.out.cell 1 rfl
    have f2:=XF.out.cell 2 rfl
    have HLN:=Lib.hid (fun W (hb:Below wa.heap.size wa W)=>look_none w.heap.size (w.heap.size+1) xb ρ B { m with mv:={ m.mv with code:=code } } U j.lab W ((XA2.out.below hb XA2.out.lt).cell 0 rfl) ((XA3.out.below hb XA3.out.lt).cell 0 rfl) (MA.out.below hb) (by have:=hjb.2.2;simp only [maxLen];omega) HLK.out)
    have HN:=Lib.hid (show aJumps m.labels (m.jumps.drop k) code=none by
     rw [List.drop_eq_getElem_cons hlt,show m.jumps[k]=j by have:=HJJ.out;rw [List.getElem?_eq_getElem hlt] at this;injection this]
     rw [aJumps,HLK.out])
    have HE:=Lib.hid (show σ.endM m=none by unfold AsK.endM;rw [HJ.out,HN.out])
    have HB:=Lib.hid (GA.out.below H.out.low H.out.hB (by decide))
    clear hwa j0 j1 j2
    go_region_law (first
     | (go_simp;go_at_call 126;go_loud (
        with_reducible refine(HLN.out _ (by repeat' (first|with_reducible exact Below.refl _ _|with_reducible refine below_drewN ?_ _|with_reducible refine Below.drew ?_))).mono ?_
        intro e w5 hq
        rcases(show(e= .panicked [{ v:=stopA m.line 60,recovered:=false }]∧w5=wa.drew)∨(e= .returned (.int .i64 0)∧w5=wa.drew∧aLook m.labels j.lab=some 0) from .inl hq) with⟨rfl,rfl⟩ | ⟨rfl,rfl,hno⟩
        (have HB5:=Lib.hid (HB.out.trans ((Below.drew (Below.refl wa.heap.size wa)).mono (Nat.le_trans H.out.hB (Nat.le_trans (Nat.le_add_right _ 2) ZA.out))));clear hq;go_wp2_with fail;exact(show _∧_ from⟨rfl,lpost_no HE.out rfl HB5.out⟩))
        have HNO:=Lib.hid hno
        clear hq hno)))
    all_goals exact absurd (HLK.out.symm.trans HNO.out) (by simp)
   |some p=>
    have hpN:p≤N:=look_le HMS.out.places hlk
    have hjb:=HMS.out.jump j (List.mem_of_getElem? HJJ.out)
    clear hlk
    go_wp2_with fail
    obtain⟨wa,hwa⟩: ∃W,W=wr1.alloc (.cells #[.int .i64 (j.at':Int), .int .i64 (j.fr:Int), .string j.lab] 176):=⟨_,rfl⟩
    rw [←hwa]
    have BA:=Lib.hid (show Below wr1.heap.size wr1 wa by rw [hwa];exact(Below.refl _ _).alloc (Nat.le_refl _) _)
    have XF:=Lib.hid (show Bx wa wr1.heap.size [.int .i64 (j.at':Int), .int .i64 (j.fr:Int), .string j.lab] 176 by rw [hwa];exact bx_new_at _ _ _ _ (by simp))
    have KA:=Lib.hid (KR.out.below BA.out)
    have MA:=Lib.hid (MR.out.below BA.out)
    have GA:=Lib.hid (show Chg [1,2,3,4,5,6,7,8,9,10,11,12,13] w ρ wa ρ from(GR.out.trans (Chg.of_below BA.out)).mono (by simp))
    have XA2:=Lib.hid (XR2.out.below BA.out XR2.out.lt)
    have XA3:=Lib.hid (XR3.out.below BA.out XR3.out.lt)
    have ZA:=Lib.hid (show w.heap.size+2≤wa.heap.size from Nat.le_trans ZR.out BA.out.size)
    have HFL:=Lib.hid (show wr1.heap.size<wa.heap.size from XF.out.lt)
    have f0:=XF.out.cell 0 rfl
    have f1:=XF.out.cell 1 rfl
    have f2:=XF.out.cell 2 rfl
    have HLK2:=Lib.hid (fun n=>look_some w.heap.size (w.heap.size+1) xb ρ B { m with mv:={ m.mv with code:=code } } U j.lab p (wa.drewN n) (XA2.out.cell 0 rfl) (MA.out.below (below_drewN (Below.refl _ _) n)) (by have:=hjb.2.2;simp only [maxLen];omega) HLK.out)
    clear hwa j0 j1 j2
    have hd64:IntKind.i64.wrap ((p:Int) - (j.fr:Int))=(p:Int) - (j.fr:Int):=IntWalk.i64_in _ (by have:=hjb.2.1;omega)
    by_cases hin: -32768≤(p:Int) - (j.fr:Int)∧(p:Int) - (j.fr:Int)≤32767
    ·have HIN:=Lib.hid hin
     have h16:IntKind.i16.wrap ((p:Int) - (j.fr:Int))=(p:Int) - (j.fr:Int):=IntWalk.i16_in _ hin
     clear hin
     go_quiet ((go_at_call 126;exact Calls.quiet_of_same (HLK2.out _)))
     obtain⟨wb,hwb⟩: ∃W,W=wa.drewN nq:=⟨_,rfl⟩
     rw [←hwb]
     have BB:=Lib.hid (show Below wa.heap.size wa wb by rw [hwb];exact below_drewN (Below.refl _ _) _)
     have XB:=Lib.hid (XF.out.below BB.out XF.out.lt)
     have KB:=Lib.hid (KA.out.below BB.out)
     have MB:=Lib.hid (MA.out.below BB.out)
     have GB:=Lib.hid (show Chg [1,2,3,4,5,6,7,8,9,10,11,12,13] w ρ wb ρ from(GA.out.trans (Chg.of_below BB.out)).mono (by simp))
     have XB2:=Lib.hid (XA2.out.below BB.out XA2.out.lt)
     have XB3:=Lib.hid (XA3.out.below BB.out XA3.out.lt)
     have ZB:=Lib.hid (show w.heap.size+2≤wb.heap.size from Nat.le_trans ZA.out BB.out.size)
     clear hwb f0 f1 f2 hd64
     have f0:=XB.out.cell 0 rfl
     go_wp2_with fail
     have x6:=MB.out.box.cell 6 rfl
     obtain⟨gc,cc,hCc⟩: ∃gc cc,U.cv= .slice (some ⟨gc,0,none⟩) code.length cc:=by
      rcases Go.Joins.ownsRow_forms MB.out.code.1 with⟨_,h0⟩ | ⟨g,cap,e⟩
      ·exact absurd (show code.length=0 from h0) (by have:=hjb.1;omega)
      ·exact⟨g,cap,e⟩
     have HCC:=Lib.hid hCc
     have x6':wb.cell? ⟨xb,6,none⟩=some (.slice (some ⟨gc,0,none⟩) code.length cc):=by rw [←hCc];exact x6
     have ja:(j.at':Int) < (code.length:Int):=by have:=hjb.1;omega
     have jb:(j.at':Int)+1< (code.length:Int):=by have:=hjb.1;omega
     have b0:=XB2.out.cell 0 rfl
     clear x6
     have hrow:=MB.out.code.1
     rw [hCc] at hrow
     have ca:=hrow.cellAt j.at' (by have:=hjb.1;show j.at'<code.length*1;omega)
     have cb:=hrow.cellAt (j.at'+1) (by have:=hjb.1;show j.at'+1<code.length*1;omega)
     obtain⟨va,hva⟩: ∃v,wb.cell? ⟨gc,j.at',none⟩=some v:=⟨_,ca.trans (List.getElem?_eq_getElem (by simp;have:=hjb.1;omega))⟩
     obtain⟨vb,hvb⟩: ∃v,wb.cell? ⟨gc,j.at'+1,none⟩=some v:=⟨_,cb.trans (List.getElem?_eq_getElem (by simp;have:=hjb.1;omega))⟩
     have za:=hrow.frozenAt j.at'
     have zb:=hrow.frozenAt (j.at'+1)
     clear hrow ca cb
     have hc9:=HMS.out.code
     have hjl:=HMS.out.jumps
     have hg10:ρ gc=10:=MB.out.code.2 gc (by rw [show U.cv=_ from HCC.out];rfl)
     have n2:w.heap.size≠gc:=fun e=>by have h1:=R2.out;rw [e,hg10] at h1;omega
     have n6:xb≠gc:=fun e=>by have h1:=MB.out.xc;rw [e,hg10] at h1;omega
     have n0:wr1.heap.size≠gc:=fun e=>by have h1:=KR.out.low.fresh (Nat.le_refl wr1.heap.size);rw [e,hg10] at h1;omega
     have hp1:j.at'+1<code.length:=by have:=hjb.1;omega
     have hp2:j.at'≤1000000:=by have:=hjb.1;omega
     have hp0:j.at'<code.length:=by omega
     have hi0:(0:Int)≤(j.at':Int):=by omega
     have hi1:(j.at':Int) < (code.length:Int):=by omega
     have hi2:(j.at':Int)+1< (code.length:Int):=by omega
     have hi3:(0:Int)≤(j.at':Int)+1:=by omega
     have hw1:IntKind.i64.wrap ((j.at':Int)+1)=(j.at':Int)+1:=IntWalk.i64_in _ (by omega)
     have ne2: ∀(W:World) (o:Nat) (v:Value),(W.setCell ⟨gc,o,none⟩ v).cell? ⟨w.heap.size,0,none⟩=W.cell? ⟨w.heap.size,0,none⟩:=fun W o v=>World.cell?_setCell_other _ _ _ _ (by intro e;injection e with e _;first|exact n2 e|exact n2 e.symm)
     have ne6: ∀(W:World) (o:Nat) (v:Value),(W.setCell ⟨gc,o,none⟩ v).cell? ⟨xb,6,none⟩=W.cell? ⟨xb,6,none⟩:=fun W o v=>World.cell?_setCell_other _ _ _ _ (by intro e;injection e with e _;first|exact n6 e|exact n6 e.symm)
     have ne0: ∀(W:World) (o:Nat) (v:Value),(W.setCell ⟨gc,o,none⟩ v).cell? ⟨wr1.heap.size,0,none⟩=W.cell? ⟨wr1.heap.size,0,none⟩:=fun W o v=>World.cell?_setCell_other _ _ _ _ (by intro e;injection e with e _;first|exact n0 e|exact n0 e.symm)
     refine wp_region_un (fun w'=>w'.cell? ⟨w.heap.size,0,none⟩=some (.pointer (some ⟨xb,0,none⟩))∧w'.cell? ⟨xb,6,none⟩=some (.slice (some ⟨gc,0,none⟩) code.length cc)∧w'.cell? ⟨wr1.heap.size,0,none⟩=some (.int .i64 (j.at':Int))) 23 (by kernel_rfl) ?_ (fun hHeld=> ?_)
     ·exact⟨b0,x6',f0⟩
     refine un_many [0,1,2,3,4,5,6,7,8,9,10,11,12,13,14,15,16,17,18,19] 4 rfl (by kernel_rfl) (fun _ _ _ d _ h=>by cases d<;>exact h) (by assumption) ?_
     repeat(refine tk_cons ?_ rfl rfl ?_ ?_;rotate_left;(intro w hSw;(try dsimp only at hSw);go_simp;(try with_reducible rfl));(try simp only [Act.put,List.setIfInBounds_toArray,List.set_cons_zero,List.set_cons_succ]))
     refine tk_nil ?_
     refine un_step (i:=20) (by kernel_rfl) rfl (fun K hK=> ?_)
     go_simp
     go_wp2_with fail
     refine hK.out _ _ (fun _=> ?_) (fun hHeld2=> ?_)
     ·exact⟨b0,x6',f0⟩
     have hHeld:=hHeld2 (by decide)
     clear hHeld2
     clear hK K
     (try simp only [Act.put,List.setIfInBounds_toArray,List.set_cons_zero,List.set_cons_succ])
     refine un_step (i:=21) (by kernel_rfl) rfl (fun K hK=> ?_)
     go_simp
     refine hK.out _ _ (fun _=> ?_) (fun hHeld2=> ?_)
     ·exact⟨(ne2 _ _ _).trans b0,(ne6 _ _ _).trans x6',(ne0 _ _ _).trans f0⟩
     have hHeld:=hHeld2 (by decide)
     clear hHeld2
     clear hK K
     (try simp only [Act.put,List.setIfInBounds_toArray,List.set_cons_zero,List.set_cons_succ])
     refine un_step (i:=22) (by kernel_rfl) rfl (fun K hK=> ?_)
     go_simp
     go_wp2_with fail
     refine hK.out _ _ (fun _=> ?_) (fun hHeld2=> ?_)
     ·exact⟨(ne2 _ _ _).trans b0,(ne6 _ _ _).trans x6',(ne0 _ _ _).trans f0⟩
     have hHeld:=hHeld2 (by decide)
     clear hHeld2
     clear hK K
     (try simp only [Act.put,List.setIfInBounds_toArray,List.set_cons_zero,List.set_cons_succ])
     refine un_step (i:=23) (by kernel_rfl) rfl (fun K hK=> ?_)
     go_simp
     refine hK.out _ _ (fun h=>absurd rfl h) (fun _=> ?_)
     clear hK K
     (try simp only [Act.put,List.setIfInBounds_toArray,List.set_cons_zero,List.set_cons_succ])
     refine un_done (by kernel_rfl) ?_
     obtain⟨wc,hwc⟩: ∃W,W=(wb.drew.setCell ⟨gc,j.at',none⟩ (.int .u8 (IntKind.u8.wrap (((p:Int) - j.fr)/256)))).setCell ⟨gc,j.at'+1,none⟩ (.int .u8 (IntKind.u8.wrap ((p:Int) - j.fr))):=⟨_,rfl⟩
     have hw0:=hwc
     rw [wrap_byte,wrap_byte] at hwc
     have M1:=(MB.out.below (Below.refl wb.heap.size wb).drew).setB HCC.out j.at' (aByte (((p:Int) - j.fr)/256))
     have M2:=M1.1.setB HCC.out (j.at'+1) (aByte ((p:Int) - j.fr))
     rw [←hwc] at M2
     have MC:=Lib.hid M2.1
     have GD:=Lib.hid ((Chg.of_below (cs:= [10]) (ρ:=ρ) (Below.refl wb.heap.size wb).drew).trans (M1.2.trans M2.2))
     have KC:=Lib.hid (KB.out.keep GD.out (KB.out.low.mono GD.out.size) (by intro c h1 h2 hm;simp at hm;omega))
     have GC:=Lib.hid (GB.out.trans (GD.out.mono (by simp)))
     have XC2:=Lib.hid (GD.out.bx XB2.out (by rw [R2.out];decide))
     have XC3:=Lib.hid (GD.out.bx XB3.out (by rw [R3.out];decide))
     have ZC:=Lib.hid (show w.heap.size+2≤wc.heap.size from Nat.le_trans ZB.out GD.out.size)
     have HJ2:=Lib.hid (show aJumps m.labels m.jumps m.mv.code=aJumps m.labels (m.jumps.drop (k+1)) ((code.set j.at' (aByte (((p:Int) - j.fr)/256))).set (j.at'+1) (aByte ((p:Int) - j.fr))) by
      rw [HJ.out,List.drop_eq_getElem_cons hlt,show m.jumps[k]=j by have:=HJJ.out;rw [List.getElem?_eq_getElem hlt] at this;injection this]
      rw [aJumps,HLK.out]
      exact if_pos HIN.out)
     clear hwc
     subst hw0
     clear M1 M2 b0 x6' f0 hva hvb za zb ne2 ne6 ne0
     go_wp2_with fail
     go_roundw
     case rel=>exact⟨k+1,_,by go_num,by omega,by simp [hcl],HJ2,KC,MC,GC,ZC,XC2,XC3⟩
     case measure=>simp [RowKit.intOf];omega
    ·have h16:(((p:Int) - (j.fr:Int)) !=RowKit.wrap64 (IntKind.i16.wrap ((p:Int) - (j.fr:Int))))=true:=by
      have h1:=i16_range ((p:Int) - (j.fr:Int))
      rw [show RowKit.wrap64 (IntKind.i16.wrap ((p:Int) - (j.fr:Int)))=IntKind.i64.wrap (IntKind.i16.wrap ((p:Int) - (j.fr:Int))) from by unfold RowKit.wrap64;rw [IntKind.wrap_i64],IntWalk.i64_in _ (by omega),bne_iff_ne]
      intro e
      omega
     have HN:=Lib.hid (show aJumps m.labels (m.jumps.drop k) code=none by
      rw [List.drop_eq_getElem_cons hlt,show m.jumps[k]=j by have:=HJJ.out;rw [List.getElem?_eq_getElem hlt] at this;injection this]
      rw [aJumps,HLK.out]
      exact if_neg hin)
     clear hin
     go_quiet ((go_at_call 126;exact Calls.quiet_of_same (HLK2.out _)))
     clear hd64 f0 f1 f2
     have f0:=XA3.out.cell 0 rfl
     go_wp2_with (go_at_call 125;refine stop_here ?_)
     refine go_on ?_
     refine(missing_any w.heap.size xb { m with mv:={ m.mv with code:=code } } U _ ((XA2.out.below (below_drewN (Below.refl _ _) _) XA2.out.lt).cell 0 rfl) (MA.out.below (below_drewN (Below.refl _ _) _)).box).mono ?_
     rintro e w1 ⟨rfl,rfl⟩
     have HE:=Lib.hid (show σ.endM m=none by unfold AsK.endM;rw [HJ.out,HN.out])
     have HB:=Lib.hid (GA.out.below H.out.low H.out.hB (by decide))
     go_wp2_with fail
     exact(show _∧_ from⟨rfl,by rw [HE.out];exact⟨rfl,HB.out.trans (below_drewN (Below.refl _ _) _)⟩⟩)
  ·have hkl:k=m.jumps.length:=by omega
   have HC1:=Lib.hid (show aJumps m.labels m.jumps m.mv.code=some code by rw [HJ.out,hkl,List.drop_length];rfl)
   have MT0:=Lib.hid MR.out.toT
   have b0:=XR2.out.cell 0 rfl
   have x12:=MR.out.box.cell 12 rfl
   obtain⟨At,kt,htv⟩:=own_slice MR.out.traps.1
   have HTV:=Lib.hid htv
   have x12':wr1.cell? ⟨xb,12,none⟩=some (.slice At m.traps.length kt):=by rw [←htv];exact x12
   clear htv x12
   go_wp2_with fail
   go_loopw [9,70] (fun _ i wr=> ∃(k2:Nat) (ts:List TrapV) (ρ2:Nat→Nat) (tv:Value),i= .int .i64 k2∧k2≤m.traps.length∧ts.length=k2∧Hid ((aTraps m.labels m.traps)=(aTraps m.labels (m.traps.drop k2)).map (ts++ ·))∧Hid (MkC wr ρ2 B kb σ { V with mv:= .pointer none })∧Hid (MtT wr ρ2 B xb { m with mv:={ m.mv with code:=code } } U tv ts)∧Hid (Chg [1,2,3,4,5,6,7,8,9,10,11,12,13] w ρ wr ρ2)∧Hid (w.heap.size+2≤wr.heap.size)∧Hid (Bx wr w.heap.size [.pointer (some ⟨xb,0,none⟩)] 65)∧Hid (Bx wr (w.heap.size+1) [.func (.func 125) #[] #[.pointer (some ⟨w.heap.size,0,none⟩)]] 1)∧Hid (ρ2 w.heap.size=0∧ρ2 (w.heap.size+1)=0)) (fun _ i _=>m.traps.length - (RowKit.intOf i).toNat)
   case atStart=>exact⟨0, [],ρ, .slice none 0 0,rfl,by omega,rfl,Lib.hid (by rw [List.drop_zero];cases aTraps m.labels m.traps<;>simp),KR,MT0,GR,ZR,XR2,XR3,Lib.hid ⟨R2.out,R3.out⟩⟩
   case round=>
    obtain⟨wr2,hwr2⟩: ∃W,W=wr:=⟨_,rfl⟩
    subst hwr2
    obtain⟨k2,ts,ρ2,tv,rfl,hk2,htl,HT,K2,T2,G2,Z2,X22,X23,RR2⟩:=hrel
    have hTL:=HMS.out.traps
    by_cases hlt2:k2<m.traps.length
    ·obtain⟨t,ht⟩: ∃t,m.traps[k2]?=some t:=⟨_,List.getElem?_eq_getElem hlt2⟩
     obtain⟨gt,ct,hAt⟩: ∃gt ct,U.tv= .slice (some ⟨gt,0,none⟩) m.traps.length ct:=by
      rcases Go.Joins.ownsRow_forms T2.out.traps.1 with⟨_,h0⟩ | ⟨g,cap,e⟩
      ·exact absurd (show m.traps.length=0 from h0) (by omega)
      ·exact⟨g,cap,e⟩
     have hAe:At=some ⟨gt,0,none⟩∧kt=ct:=by
      have h1:=HTV.out
      rw [hAt] at h1
      injection h1 with h1 _ h2
      exact⟨h1.symm,h2.symm⟩
     obtain⟨rfl,rfl⟩:=hAe
     have hrow:=T2.out.traps.1
     rw [hAt] at hrow
     have hcells: ∀q,q<4→wr2.cell? ⟨gt,k2*4+q,none⟩=t.cells[q]?:=fun q hq=> (hrow.cellAt (k2*4+q) (by show k2*4+q<m.traps.length*4;omega)).trans (flat_at AsT.cells 4 (fun _=>rfl) _ k2 q t ht hq)
     have j0:=hcells 0 (by omega)
     have j1:=hcells 1 (by omega)
     have j2:=hcells 2 (by omega)
     have j3:=hcells 3 (by omega)
     simp only [AsT.cells,List.getElem?_cons_zero,List.getElem?_cons_succ,Nat.add_zero] at j0 j1 j2 j3
     have HTT:=Lib.hid ht
     have htk:=HMS.out.kinds t (List.mem_of_getElem? ht)
     have hgl:gt<wr2.heap.size:=(hrow.lt gt rfl).2
     clear hcells hrow ht
     go_wp2_with fail
     obtain⟨wa,hwa⟩: ∃W,W=wr2.alloc (.cells #[.string t.lo, .string t.hi, .string t.tg, .int .i64 (t.kind:Int)] 127):=⟨_,rfl⟩
     rw [←hwa]
     have BA:=Lib.hid (show Below wr2.heap.size wr2 wa by rw [hwa];exact(Below.refl _ _).alloc (Nat.le_refl _) _)
     have XT:=Lib.hid (show Bx wa wr2.heap.size t.cells 127 by rw [hwa];exact bx_new_at _ _ _ _ rfl)
     have KA:=Lib.hid (K2.out.below BA.out)
     have MA:=Lib.hid (T2.out.below BA.out)
     have GA:=Lib.hid (show Chg [1,2,3,4,5,6,7,8,9,10,11,12,13] w ρ wa ρ2 from(G2.out.trans (Chg.of_below BA.out)).mono (by simp))
     have XA2:=Lib.hid (X22.out.below BA.out X22.out.lt)
     have XA3:=Lib.hid (X23.out.below BA.out X23.out.lt)
     have ZA:=Lib.hid (show w.heap.size+2≤wa.heap.size from Nat.le_trans Z2.out BA.out.size)
     have hrt:=K2.out.low.fresh (Nat.le_refl wr2.heap.size)
     have hll:=HMS.out.labels
     clear hwa j0 j1 j2 j3
     have hwd:=(Below.refl wa.heap.size wa).drew
     have MD:=Lib.hid (MA.out.below hwd)
     have LD:=Lib.hid (show Low wa.drew ρ2 B from KA.out.low.mono (Nat.le_refl _))
     have XD2:=Lib.hid (XA2.out.below hwd XA2.out.lt)
     have XD3:=Lib.hid (XA3.out.below hwd XA3.out.lt)
     have XTD:=Lib.hid (XT.out.below hwd XT.out.lt)
     have HCD:=Lib.hid (show Chg [8,13] wa ρ2 wa.drew ρ2 from Chg.of_below hwd)
     have HL:=Lib.hid (show∀s:ByteArray,s.size≤65536→Calls Tryz.prog 126 #[.string s, .pointer (some ⟨w.heap.size,0,none⟩), .pointer (some ⟨w.heap.size+1,0,none⟩)] wa.drew (fun(e:Ending) (w':World)=> (∃x,aLook m.labels s=some x∧e= .returned (.int .i64 (x:Nat))∧w'=wa.drew)∨(aLook m.labels s=none∧e= .panicked [{ v:=stopA m.line 60,recovered:=false }]∧w'=wa.drew)) from fun s hs=>by
      cases hl:aLook m.labels s with
      |none=>exact(look_no w.heap.size (w.heap.size+1) xb U.lb m.line m.labels _ s wa.drew (XD2.out.cell 0 rfl) (XD3.out.cell 0 rfl) MD.out.box rfl rfl MD.out.lab (by simp only [maxLen];omega) hl).mono fun e w' h=> .inr ⟨rfl,h.1,h.2⟩
      |some x=>exact(look_yes w.heap.size (w.heap.size+1) xb U.lb m.labels _ s x wa.drew (XD2.out.cell 0 rfl) MD.out.box rfl MD.out.lab (by simp only [maxLen];omega) hl).mono fun e w' h=> .inl ⟨x,rfl,h.1,h.2⟩)
     have HN:=Lib.hid (show(aLook m.labels t.lo=none∨aLook m.labels t.hi=none∨aLook m.labels t.tg=none)→σ.endM m=none from fun hno=>by
      have hn:aTraps m.labels m.traps=none:=by
       rw [HT.out,List.drop_eq_getElem_cons hlt2,show m.traps[k2]=t by have:=HTT.out;rw [List.getElem?_eq_getElem hlt2] at this;injection this]
       rw [traps_no hno]
       rfl
      unfold AsK.endM
      rw [HC1.out]
      simp only
      rw [hn])
     have HBQ:=Lib.hid ((GA.out.below H.out.low H.out.hB (by decide)).trans (hwd.mono (Nat.le_trans H.out.hB (Nat.le_trans (Nat.le_add_right _ 2) ZA.out))))
     obtain⟨At,kt,htv⟩:=own_slice MD.out.tr.1
     have HTV:=Lib.hid htv
     have c7:wa.drew.cell? ⟨xb,7,none⟩=some (.slice At ts.length kt):=by rw [←htv];exact MD.out.box.cell 7 (by simp [mtCells])
     have S0:=Lib.hid (show trS w.heap.size xb wr2.heap.size t wa.drew from⟨XD2.out.cell 0 rfl,XTD.out.cell 0 rfl,XTD.out.cell 1 rfl,XTD.out.cell 2 rfl,XTD.out.cell 3 rfl⟩)
     have NV:=Lib.hid (show∀g,(Value.slice At ts.length kt).ownBlock=some g→g≠xb∧g≠w.heap.size∧g≠wr2.heap.size from fun g hg=>by
      have h:=MD.out.tr.2 g (by rw [htv];exact hg)
      refine⟨fun e=> ?_,fun e=> ?_,fun e=> ?_⟩
      ·rw [e,MD.out.xc] at h;omega
      ·rw [e,RR2.out.1] at h;omega
      ·rw [e,hrt] at h;omega)
     have nX2:xb≠w.heap.size:=fun e=>by have h:=MD.out.xc;rw [e,RR2.out.1] at h;omega
     have nXT:xb≠wr2.heap.size:=fun e=>by have h:=MD.out.xc;rw [e,hrt] at h;omega
     have hBA:=KA.out.hB
     clear hwd htv
     have HAD:=Lib.hid (show∀q,q<wa.heap.size→ ∀C,((wa.alloc C).drew).heap[q]?=wa.drew.heap[q]? from fun q hq C=>Below.heap_alloc wa C q hq)
     have HTN:=Lib.hid htl
     have hts9:ts.length≤900000:=by omega
     clear htl
     go_upto_region 15 with fail
     refine wp_region_un (fun w'=>w'.cell? ⟨xb,7,none⟩=some (.slice At ts.length kt)∧w'.cell? ⟨w.heap.size,0,none⟩=some (.pointer (some ⟨xb,0,none⟩))∧w'.cell? ⟨wr2.heap.size,0,none⟩=some (.string t.lo)∧w'.cell? ⟨wr2.heap.size,1,none⟩=some (.string t.hi)∧w'.cell? ⟨wr2.heap.size,2,none⟩=some (.string t.tg)∧w'.cell? ⟨wr2.heap.size,3,none⟩=some (.int .i64 t.kind)) 26 (by kernel_rfl) ?_ (fun hHeld=> ?_)
     ·exact⟨c7,S0.out⟩
     refine un_many [0,1,2,3,4,5,6,7,8,10,11,12,14,15,16,18,19] 10 rfl (by kernel_rfl) (fun _ _ _ d _ h=>by cases d<;>exact h) (by assumption) ?_
     repeat(refine tk_cons ?_ rfl rfl ?_ ?_;rotate_left;(intro w hSw;(try dsimp only at hSw);go_simp;(try with_reducible rfl));(try simp only [Act.put,List.setIfInBounds_toArray,List.set_cons_zero,List.set_cons_succ]))
     refine tk_nil ?_
     refine un_step (i:=9) (by kernel_rfl) rfl (fun K hK=> ?_)
     go_simp;go_at_call 126
     (with_reducible refine(HL.out t.lo htk.2.1).mono ?_)
     intro e w5 hq
     rcases hq.symm with⟨hx,rfl,rfl⟩ | ⟨x1,hx,rfl,rfl⟩
     ·have HP:=Lib.hid (HN.out (.inl hx));clear hq hx;dsimp only;exact(show _∧_ from⟨rfl,lpost_no HP.out rfl HBQ.out⟩)
     have Hx1:=Lib.hid hx
     clear hq hx
     (try dsimp only)
     refine hK.out _ _ (fun _=> ?_) (fun hHeld2=> ?_)
     ·exact⟨c7,S0.out⟩
     have hHeld:=hHeld2 (by decide)
     clear hHeld2
     clear hK K
     (try simp only [Act.put,List.setIfInBounds_toArray,List.set_cons_zero,List.set_cons_succ])
     refine un_step (i:=13) (by kernel_rfl) rfl (fun K hK=> ?_)
     go_simp;go_at_call 126
     (with_reducible refine(HL.out t.hi htk.2.2.1).mono ?_)
     intro e w5 hq
     rcases hq.symm with⟨hx,rfl,rfl⟩ | ⟨x2,hx,rfl,rfl⟩
     ·have HP:=Lib.hid (HN.out (.inr (.inl hx)));clear hq hx;dsimp only;exact(show _∧_ from⟨rfl,lpost_no HP.out rfl HBQ.out⟩)
     have Hx2:=Lib.hid hx
     clear hq hx
     (try dsimp only)
     refine hK.out _ _ (fun _=> ?_) (fun hHeld2=> ?_)
     ·exact⟨c7,S0.out⟩
     have hHeld:=hHeld2 (by decide)
     clear hHeld2
     clear hK K
     (try simp only [Act.put,List.setIfInBounds_toArray,List.set_cons_zero,List.set_cons_succ])
     refine un_step (i:=17) (by kernel_rfl) rfl (fun K hK=> ?_)
     go_simp;go_at_call 126
     (with_reducible refine(HL.out t.tg htk.2.2.2).mono ?_)
     intro e w5 hq
     rcases hq.symm with⟨hx,rfl,rfl⟩ | ⟨x3,hx,rfl,rfl⟩
     ·have HP:=Lib.hid (HN.out (.inr (.inr hx)));clear hq hx;dsimp only;exact(show _∧_ from⟨rfl,lpost_no HP.out rfl HBQ.out⟩)
     have Hx3:=Lib.hid hx
     have S1:=Lib.hid (show trS w.heap.size xb wr2.heap.size t ((wa.alloc (.cells #[.int .i64 (x1:Nat), .int .i64 (x2:Nat), .int .i64 (x3:Nat), .int .i64 (t.kind:Int)] 112)).drew) from trS_k S0.out (HAD.out _ XA2.out.lt _) (HAD.out _ XT.out.lt _))
     have f7:((wa.alloc (.cells #[.int .i64 (x1:Nat), .int .i64 (x2:Nat), .int .i64 (x3:Nat), .int .i64 (t.kind:Int)] 112)).drew).cell? ⟨xb,7,none⟩=some (.slice At ts.length kt):=(World.cell?_of_block (a:=⟨xb,7,none⟩) (w:=wa.drew) (HAD.out _ MD.out.box.lt _)).trans c7
     have f7':(wa.alloc (.cells #[.int .i64 (x1:Nat), .int .i64 (x2:Nat), .int .i64 (x3:Nat), .int .i64 (t.kind:Int)] 112)).cell? ⟨xb,7,none⟩=some (.slice At ts.length kt):=f7
     have HN3:=Lib.hid (show∀j u, [Value.int .i64 (x1:Nat), .int .i64 (x2:Nat), .int .i64 (x3:Nat), .int .i64 (t.kind:Int)][j]?=some u→((wa.alloc (.cells #[.int .i64 (x1:Nat), .int .i64 (x2:Nat), .int .i64 (x3:Nat), .int .i64 (t.kind:Int)] 112)).drew).cell? ((⟨wa.heap.size,0,none⟩:Addr).add j)=some u from cells_new wa _ _)
     have HO:=Lib.hid (show((wa.alloc (.cells #[.int .i64 (x1:Nat), .int .i64 (x2:Nat), .int .i64 (x3:Nat), .int .i64 (t.kind:Int)] 112)).drew).ownsRow B 112 4 (.slice At ts.length kt) ts.length (ts.flatMap TrapV.cells) from by
      rw [←HTV.out]
      exact own_heap MD.out.tr.1 fun q hq=>HAD.out _ (MD.out.tr.1.lt q hq).2 _)
     clear hq hx
     (try dsimp only)
     refine hK.out _ _ (fun _=> ?_) (fun hHeld2=> ?_)
     ·exact⟨c7,S0.out⟩
     have hHeld:=hHeld2 (by decide)
     clear hHeld2
     clear hK K
     (try simp only [Act.put,List.setIfInBounds_toArray,List.set_cons_zero,List.set_cons_succ])
     refine un_many [20] 6 rfl (by kernel_rfl) (fun _ _ _ d _ h=>by cases d<;>exact h) (by assumption) ?_
     repeat(refine tk_cons ?_ rfl rfl ?_ ?_;rotate_left;(intro w hSw;(try dsimp only at hSw);go_simp;(try with_reducible rfl));(try simp only [Act.put,List.setIfInBounds_toArray,List.set_cons_zero,List.set_cons_succ]))
     refine tk_nil ?_
     refine un_step (i:=21) (by kernel_rfl) rfl (fun K hK=> ?_)
     go_simp
     refine hK.out _ _ (fun _=> ?_) (fun hHeld2=> ?_)
     ·exact⟨f7,S1.out⟩
     have hHeld:=hHeld2 (by decide)
     clear hHeld2
     clear hK K
     (try simp only [Act.put,List.setIfInBounds_toArray,List.set_cons_zero,List.set_cons_succ])
     refine un_step (i:=22) (by kernel_rfl) rfl (fun K hK=> ?_)
     refine step_lies rfl (.tmp 79) (.tmp 95) 35 rfl Tryz.underlying35 info_apitrap rfl (by omega) B rfl HO.out rfl rfl HN3.out (by simp [Value.oneCell']) (by omega) (by simp only [maxLen];omega) (by omega) (by have h1:=KA.out.hB;simp;omega) ?_
     intro g3 c3 w14 ho3 hg3 hb3 hgg3
     have BX14:=Lib.hid (show Bx w14 xb ((mtCells { m with mv:={ m.mv with code:=code } } U).set 7 tv) 73 from(hg3.block xb (by have:=MD.out.box.lt;simp at this⊢;omega) (fun e=> (NV.out _ e.symm).1 rfl)).trans ((HAD.out _ MD.out.box.lt _).trans MD.out.box))
     have S2:=Lib.hid (show trS w.heap.size xb wr2.heap.size t w14 from trS_k S1.out (hg3.block _ (by have:=XA2.out.lt;simp;omega) (fun e=> (NV.out _ e.symm).2.1 rfl)) (hg3.block _ (by have:=XT.out.lt;simp;omega) (fun e=> (NV.out _ e.symm).2.2 rfl)))
     have k14:w14.cell? ⟨xb,7,none⟩=some tv:=BX14.out.cell 7 (by simp [mtCells])
     have z14:=BX14.out.frozen 7
     have G14:=Lib.hid hg3
     have O14:=Lib.hid ho3
     have GG:=Lib.hid hgg3
     clear ho3 hg3 hb3 hgg3
     have k14v:w14.cell? ⟨xb,7,none⟩=some (.slice At ts.length kt):=by rw [←HTV.out];exact k14
     refine hK.out _ _ (fun _=> ?_) (fun hHeld2=> ?_)
     ·exact⟨k14v,S2.out⟩
     have hHeld:=hHeld2 (by decide)
     clear hHeld2
     clear hK K
     (try simp only [Act.put,List.setIfInBounds_toArray,List.set_cons_zero,List.set_cons_succ])
     refine un_step (i:=23) (by kernel_rfl) rfl (fun K hK=> ?_)
     go_simp
     refine hK.out _ _ (fun _=> ?_) (fun hHeld2=> ?_)
     ·exact⟨k14v,S2.out⟩
     have hHeld:=hHeld2 (by decide)
     clear hHeld2
     clear hK K
     (try simp only [Act.put,List.setIfInBounds_toArray,List.set_cons_zero,List.set_cons_succ])
     refine un_step (i:=24) (by kernel_rfl) rfl (fun K hK=> ?_)
     go_simp
     refine hK.out _ _ (fun _=> ?_) (fun hHeld2=> ?_)
     ·exact⟨k14v,S2.out⟩
     have hHeld:=hHeld2 (by decide)
     clear hHeld2
     clear hK K
     (try simp only [Act.put,List.setIfInBounds_toArray,List.set_cons_zero,List.set_cons_succ])
     refine un_step (i:=25) (by kernel_rfl) rfl (fun K hK=> ?_)
     go_simp
     refine hK.out _ _ (fun _=> ?_) (fun hHeld2=> ?_)
     ·exact⟨k14v,S2.out⟩
     have hHeld:=hHeld2 (by decide)
     clear hHeld2
     clear hK K
     (try simp only [Act.put,List.setIfInBounds_toArray,List.set_cons_zero,List.set_cons_succ])
     refine un_step (i:=26) (by kernel_rfl) rfl (fun K hK=> ?_)
     go_simp
     refine hK.out _ _ (fun h=>absurd rfl h) (fun _=> ?_)
     clear hK K
     (try simp only [Act.put,List.setIfInBounds_toArray,List.set_cons_zero,List.set_cons_succ])
     refine un_done (by kernel_rfl) ?_
     have hg6:tv.ownBlock=some g3∨wa.drew.heap.size≤g3:=by
      rcases GG.out with e|e
      ·exact .inl (by rw [HTV.out];exact e)
      ·right
       first|omega| (simp at e;simp;omega)
     have hgx:g3≠xb:=by
      rintro rfl
      rcases hg6 with e|e
      ·exact(NV.out _ (by rw [←HTV.out];exact e)).1 rfl
      ·have:=MD.out.box.lt
       omega
     obtain⟨ρ9,tv9,hM,hC2,hL2⟩:=MD.out.add (x:=⟨x1,x2,x3,t.kind⟩) (w':=w14.setCell ⟨xb,7,none⟩ (.slice (some ⟨g3,0,none⟩) (ts.length+1) c3)) (g:=g3) (cap:=c3) LD.out G14.out.os G14.out.tape G14.out.output (by have:=G14.out.size;simp at this⊢;omega)
      (fun q hq h1 h2=> (Below.heap_setCell _ _ _ _ h1).trans ((G14.out.block q (by simp at hq⊢;omega) (fun e=>h2 (by rw [HTV.out];exact e.symm))).trans (HAD.out _ hq _)))
      (BX14.out.set 7 _) (own_set O14.out hgx _) hg6
     obtain⟨W',hW'⟩: ∃W,W=w14.setCell ⟨xb,7,none⟩ (.slice (some ⟨g3,0,none⟩) (ts.length+1) c3):=⟨_,rfl⟩
     rw [←hW'] at hM hC2 hL2
     obtain⟨ρ',hρ'⟩: ∃r,r=ρ9:=⟨_,rfl⟩
     obtain⟨tv',htv'⟩: ∃r,r=tv9:=⟨_,rfl⟩
     subst hρ'
     subst htv'
     have hl1:=Hx1
     have hl2:=Hx2
     have hl3:=Hx3
     have hC:=HCD.out.trans hC2
     have hL:=hL2
     clear hC2 hL2
     have HT2:=Lib.hid (show aTraps m.labels m.traps=(aTraps m.labels (m.traps.drop (k2+1))).map ((ts++ [⟨x1,x2,x3,t.kind⟩])++ ·) by
      rw [HT.out,List.drop_eq_getElem_cons hlt2,show m.traps[k2]=t by have:=HTT.out;rw [List.getElem?_eq_getElem hlt2] at this;injection this]
      exact traps_step hl1.out hl2.out hl3.out)
     have MC:=Lib.hid hM
     have GC:=Lib.hid (GA.out.trans (hC.mono (by simp)))
     have KC:=Lib.hid (KA.out.keep hC hL (by intro c h1 h2 hm;simp at hm;omega))
     have rr:ρ' w.heap.size=0∧ρ' (w.heap.size+1)=0:=⟨(hC.blk _ XA2.out.lt (by rw [RR2.out.1];decide)).2.trans RR2.out.1,(hC.blk _ XA3.out.lt (by rw [RR2.out.2];decide)).2.trans RR2.out.2⟩
     have XC2:=Lib.hid (hC.bx XA2.out (by rw [RR2.out.1];decide))
     have XC3:=Lib.hid (hC.bx XA3.out (by rw [RR2.out.2];decide))
     have ZC:=Lib.hid (show w.heap.size+2≤W'.heap.size from Nat.le_trans ZA.out hC.size)
     have RRC:=Lib.hid rr
     clear hl1 hl2 hl3 hM hC hL rr
     subst hW'
     go_wp2_with fail
     go_roundw
     case rel=>exact⟨k2+1,_,ρ',tv',by go_num,by omega,by simp [HTN.out],HT2,KC,MC,GC,ZC,XC2,XC3,RRC⟩
     case measure=>simp [RowKit.intOf];omega
    ·have hkl2:k2=m.traps.length:=by omega
     have HE:=Lib.hid (show σ.endM m=some { σ with m:=none,c:={ σ.c with mths:=σ.c.mths++ [{ m.mv with code:=code,traps:=ts }] } } by
      unfold AsK.endM
      rw [HC1.out]
      simp only
      rw [HT.out,hkl2,List.drop_length]
      simp [aTraps])
     have hml:=HS.out.nmths
     have hcl2:=HMS.out.code
     go_wp2_with fail
     have hwd:=(Below.refl wr2.heap.size wr2).drew
     have TD:=Lib.hid (T2.out.below hwd)
     have KD:=Lib.hid (K2.out.below hwd)
     have XD:=Lib.hid (X22.out.below hwd X22.out.lt)
     have HCD:=Lib.hid (show Chg [1,6,10,13] wr2 ρ2 wr2.drew ρ2 from Chg.of_below hwd)
     obtain⟨ms,q1,q2,q3⟩:=KD.out.mths
     have HM1:=Lib.hid q1
     have HM2:=Lib.hid q2
     have HM3:=Lib.hid q3
     obtain⟨Am,km,hmv⟩:=own_slice q2.1
     have HMV:=Lib.hid hmv
     have hlms:ms.length≤1000000:=by
      have h1:=congrArg List.length q1
      rw [List.length_map] at h1
      have h2:ms.length=σ.c.mths.length:=h1
      omega
     obtain⟨ov1,ov2⟩:=value_one TD.out
     have SK:=Lib.hid (show∀W:World,W.heap[w.heap.size]?=wr2.drew.heap[w.heap.size]?→W.heap[xb]?=wr2.drew.heap[xb]?→W.cell? ⟨w.heap.size,0,none⟩=some (.pointer (some ⟨xb,0,none⟩))∧W.cell? ⟨xb,0,none⟩=some (.int .i64 m.mv.acc)∧W.cell? ⟨xb,1,none⟩=some (.int .i64 m.mv.name)∧W.cell? ⟨xb,2,none⟩=some (.int .i64 m.mv.desc)∧W.cell? ⟨xb,3,none⟩=some (.bool m.mv.has)∧W.cell? ⟨xb,4,none⟩=some (.int .i64 m.mv.stack)∧W.cell? ⟨xb,5,none⟩=some (.int .i64 m.mv.locals)∧W.cell? ⟨xb,6,none⟩=some (U.cv)∧W.cell? ⟨xb,7,none⟩=some (tv) from fun W e1 e2=>by
      have h1:Bx W w.heap.size _ _:=e1.trans XD.out
      have h2:Bx W xb _ _:=e2.trans TD.out.box
      exact⟨h1.cell 0 rfl,h2.cell 0 rfl,h2.cell 1 rfl,h2.cell 2 rfl,h2.cell 3 rfl,h2.cell 4 rfl,h2.cell 5 rfl,h2.cell 6 rfl,h2.cell 7 (by simp [mtCells])⟩)
     have nKX:kb≠xb:=fun e=>by have h1:=KD.out.kc;rw [e,TD.out.xc] at h1;omega
     have nK2:kb≠w.heap.size:=fun e=>by have h1:=KD.out.kc;rw [e,RR2.out.1] at h1;omega
     have NV:=Lib.hid (show∀g,(Value.slice Am ms.length km).ownBlock=some g→g≠kb∧g≠w.heap.size∧g≠xb from fun g hg=>by
      have h:=q2.2 g (by rw [show V.tv=_ from hmv];exact hg)
      refine⟨fun e=> ?_,fun e=> ?_,fun e=> ?_⟩
      ·rw [e,KD.out.kc] at h;omega
      ·rw [e,RR2.out.1] at h;omega
      ·rw [e,TD.out.xc] at h;omega)
     have k8:wr2.drew.cell? ⟨kb,8,none⟩=some (.slice Am ms.length km):=by rw [←show V.tv=_ from hmv];exact KD.out.box.cell 8 rfl
     have hlX:=XD.out.lt
     have hlB:=TD.out.box.lt
     have hlK:=KD.out.box.lt
     have k8':(wr2.drew.alloc (.cells #[.int .i64 m.mv.acc, .int .i64 m.mv.name, .int .i64 m.mv.desc, .bool m.mv.has, .int .i64 m.mv.stack, .int .i64 m.mv.locals,U.cv,tv] 37)).cell? ⟨kb,8,none⟩=some (.slice Am ms.length km):=(World.cell?_of_block (a:=⟨kb,8,none⟩) (w:=wr2.drew) (Below.heap_alloc _ _ _ hlK)).trans k8
     have k8'':(wr2.alloc (.cells #[.int .i64 m.mv.acc, .int .i64 m.mv.name, .int .i64 m.mv.desc, .bool m.mv.has, .int .i64 m.mv.stack, .int .i64 m.mv.locals,U.cv,tv] 37)).cell? ⟨kb,8,none⟩=some (.slice Am ms.length km):=k8'
     have HO:=Lib.hid (show(wr2.drew.alloc (.cells #[.int .i64 m.mv.acc, .int .i64 m.mv.name, .int .i64 m.mv.desc, .bool m.mv.has, .int .i64 m.mv.stack, .int .i64 m.mv.locals,U.cv,tv] 37)).ownsRow B 37 8 (.slice Am ms.length km) ms.length (methCells ms) from by
      rw [←show V.tv=_ from hmv]
      exact own_heap q2.1 fun q hq=>Below.heap_alloc _ _ _ (q2.1.lt q hq).2)
     have hBA:=KD.out.hB
     clear hwd hmv q1 q2 q3
     go_upto_region 17 with fail
     refine wp_region_un (fun w'=>w'.cell? ⟨kb,8,none⟩=some (.slice Am ms.length km)∧w'.cell? ⟨w.heap.size,0,none⟩=some (.pointer (some ⟨xb,0,none⟩))∧w'.cell? ⟨xb,0,none⟩=some (.int .i64 m.mv.acc)∧w'.cell? ⟨xb,1,none⟩=some (.int .i64 m.mv.name)∧w'.cell? ⟨xb,2,none⟩=some (.int .i64 m.mv.desc)∧w'.cell? ⟨xb,3,none⟩=some (.bool m.mv.has)∧w'.cell? ⟨xb,4,none⟩=some (.int .i64 m.mv.stack)∧w'.cell? ⟨xb,5,none⟩=some (.int .i64 m.mv.locals)∧w'.cell? ⟨xb,6,none⟩=some (U.cv)∧w'.cell? ⟨xb,7,none⟩=some (tv)) 15 (by kernel_rfl) ?_ (fun hHeld=> ?_)
     ·exact⟨k8,SK.out _ rfl rfl⟩
     refine un_many [0,1,2,3,4,5,6,7,8,9] 6 rfl (by kernel_rfl) (fun _ _ _ d _ h=>by cases d<;>exact h) (by assumption) ?_
     repeat(refine tk_cons ?_ rfl rfl ?_ ?_;rotate_left;(intro w hSw;(try dsimp only at hSw);go_simp;(try with_reducible rfl));(try simp only [Act.put,List.setIfInBounds_toArray,List.set_cons_zero,List.set_cons_succ]))
     refine tk_nil ?_
     refine un_step (i:=10) (by kernel_rfl) rfl (fun K hK=> ?_)
     go_simp
     refine hK.out _ _ (fun _=> ?_) (fun hHeld2=> ?_)
     ·exact⟨k8',SK.out _ (Below.heap_alloc _ _ _ hlX) (Below.heap_alloc _ _ _ hlB)⟩
     have hHeld:=hHeld2 (by decide)
     clear hHeld2
     clear hK K
     (try simp only [Act.put,List.setIfInBounds_toArray,List.set_cons_zero,List.set_cons_succ])
     refine un_step (i:=11) (by kernel_rfl) rfl (fun K hK=> ?_)
     refine step_lies rfl (.tmp 106) (.tmp 111) 26 rfl Tryz.underlying26 info_amethod rfl (by omega) B rfl HO.out rfl rfl (cells_new_at _ _ _ _ (by first|rfl|simp)) (by simp [Value.oneCell'];exact⟨ov1,ov2⟩) (by omega) (by simp only [maxLen];omega) (by omega) (by have h1:=K2.out.hB;simp;omega) ?_
     intro g3 c3 w14 ho3 hg3 hb3 hgg3
     have BX14:=Lib.hid (show Bx w14 kb (mkCells σ { V with mv:= .pointer none }) 67 from(hg3.block kb (by simp at hlK⊢;omega) (fun e=> (NV.out _ e.symm).1 rfl)).trans ((Below.heap_alloc _ _ _ hlK).trans KD.out.box))
     have e1':w14.heap[w.heap.size]?=wr2.drew.heap[w.heap.size]?:=(hg3.block _ (by simp at hlX⊢;omega) (fun e=> (NV.out _ e.symm).2.1 rfl)).trans (Below.heap_alloc _ _ _ hlX)
     have e2':w14.heap[xb]?=wr2.drew.heap[xb]?:=(hg3.block _ (by simp at hlB⊢;omega) (fun e=> (NV.out _ e.symm).2.2 rfl)).trans (Below.heap_alloc _ _ _ hlB)
     have k14:=BX14.out.cell 8 rfl
     have z14:=BX14.out.frozen 8
     have G14:=Lib.hid hg3
     have O14:=Lib.hid ho3
     have GG:=Lib.hid hgg3
     clear ho3 hg3 hb3 hgg3
     have k14v:w14.cell? ⟨kb,8,none⟩=some (.slice Am ms.length km):=by rw [←show V.tv=_ from HMV.out];exact k14
     refine hK.out _ _ (fun _=> ?_) (fun hHeld2=> ?_)
     ·exact⟨k14v,SK.out _ e1' e2'⟩
     have hHeld:=hHeld2 (by decide)
     clear hHeld2
     clear hK K
     (try simp only [Act.put,List.setIfInBounds_toArray,List.set_cons_zero,List.set_cons_succ])
     refine un_step (i:=12) (by kernel_rfl) rfl (fun K hK=> ?_)
     go_simp
     refine hK.out _ _ (fun _=> ?_) (fun hHeld2=> ?_)
     ·exact⟨k14v,SK.out _ e1' e2'⟩
     have hHeld:=hHeld2 (by decide)
     clear hHeld2
     clear hK K
     (try simp only [Act.put,List.setIfInBounds_toArray,List.set_cons_zero,List.set_cons_succ])
     refine un_step (i:=13) (by kernel_rfl) rfl (fun K hK=> ?_)
     go_simp
     refine hK.out _ _ (fun _=> ?_) (fun hHeld2=> ?_)
     ·exact⟨k14v,SK.out _ e1' e2'⟩
     have hHeld:=hHeld2 (by decide)
     clear hHeld2
     clear hK K
     (try simp only [Act.put,List.setIfInBounds_toArray,List.set_cons_zero,List.set_cons_succ])
     refine un_step (i:=14) (by kernel_rfl) rfl (fun K hK=> ?_)
     go_simp
     refine hK.out _ _ (fun _=> ?_) (fun hHeld2=> ?_)
     ·exact⟨k14v,SK.out _ e1' e2'⟩
     have hHeld:=hHeld2 (by decide)
     clear hHeld2
     clear hK K
     (try simp only [Act.put,List.setIfInBounds_toArray,List.set_cons_zero,List.set_cons_succ])
     refine un_step (i:=15) (by kernel_rfl) rfl (fun K hK=> ?_)
     go_simp
     refine hK.out _ _ (fun h=>absurd rfl h) (fun _=> ?_)
     clear hK K
     (try simp only [Act.put,List.setIfInBounds_toArray,List.set_cons_zero,List.set_cons_succ])
     refine un_done (by kernel_rfl) ?_
     have hg6:V.tv.ownBlock=some g3∨wr2.drew.heap.size≤g3:=by
      rcases GG.out with e|e
      ·exact .inl (by rw [show V.tv=_ from HMV.out];exact e)
      ·right
       first|omega| (simp at e;simp;omega)
     have hgx:g3≠kb:=by
      rintro rfl
      rcases hg6 with e|e
      ·exact(NV.out _ (by rw [←show V.tv=_ from HMV.out];exact e)).1 rfl
      ·omega
     have hsh:=chg_shut wr2.drew ρ2
     have hKs:=KD.out.keep hsh (low_shut KD.out.low) (by intro c h1 h2 hm;simp at hm;omega)
     have hm2:OwnC wr2.drew (shut ρ2) B 37 8 V.tv ms.length (methCells ms) 6:=hsh.own HM2.out (by decide)
     have hm3: ∀q∈ms,MethS wr2.drew (shut ρ2) q.1 q.2.1 q.2.2:=fun q hq=> ⟨hsh.sl (by decide) (HM3.out q hq).hcode,hsh.sl (by decide) (HM3.out q hq).htraps,hsh.soft (by decide) (HM3.out q hq).soft⟩
     obtain⟨ρ9,tv9,hM,hC2⟩:=hKs.addM (x:={ m.mv with code:=code,traps:=ts }) (cv:=U.cv) (tv:=tv) HM1.out hm2 hm3 (w':=w14.setCell ⟨kb,8,none⟩ (.slice (some ⟨g3,0,none⟩) (ms.length+1) c3)) (g:=g3) (cap:=c3) G14.out.os G14.out.tape G14.out.output (by have:=G14.out.size;simp at this⊢;omega)
      (fun q hq h1 h2=> (Below.heap_setCell _ _ _ _ h1).trans ((G14.out.block q (by simp at hq⊢;omega) (fun e=>h2 (by show V.tv.ownBlock=_;rw [show V.tv=_ from HMV.out];exact e.symm))).trans (Below.heap_alloc _ _ _ hq)))
      (BX14.out.set 8 _) (own_set O14.out hgx _) (shut_meth2 TD.out (by show code.length≤_;omega) (by omega)) hg6
     have hC:=(HCD.out.trans (hsh.mono (by simp))).trans (hC2.mono (by simp))
     obtain⟨ρ',hρ'⟩: ∃r,r=ρ9:=⟨_,rfl⟩
     subst hρ'
     have KC:=Lib.hid hM
     have GC:=Lib.hid (G2.out.trans (hC.mono (by simp)))
     clear hM hC
     go_wp2_with fail
     refine⟨rfl, .tuple #[],by simp [results,Tryz.results54], ?_⟩
     exact lpost_some HE.out rfl (show MkC _ ρ' B kb { σ with m:=none,c:={ σ.c with mths:=σ.c.mths++ [{ m.mv with code:=code,traps:=ts }] } } _ from⟨KC.out.low,KC.out.hB,KC.out.box,KC.out.kc,KC.out.map,KC.out.mc,KC.out.pool,KC.out.ifs,KC.out.flds,KC.out.mths⟩) rfl GC.out
end Go.Proofs.YtlcidkiplidamaaGreatDoor
