/-
  What the laws rest on, part 12: walks of the program's functions and plain laws. Conditions: none but those that each theorem names.
-/
import Derived.Test.YtlcidkiplidamaaGreatDoorR11
import Derived.Test.YtlcidkiplidamaaGreatDoorR10
import Derived.Laws.EntriesVeiled
set_option linter.unusedSimpArgs false
set_option linter.unusedVariables false
set_option maxRecDepth 100000
set_option maxHeartbeats 4000000
namespace Go.Proofs.YtlcidkiplidamaaGreatDoor
open Go Go.RowKit Lib
theorem meth4_any (x:MethV) (cv tv:Value) (hcv:cv.oneCell'=true) (htv:tv.oneCell'=true) (bk p1:Nat) (nm:ByteArray) (c:ClassV) (pool ifs flds mths:Value) (w:World) (h1:Bx w bk [.int .i64 c.minor, .int .i64 c.major,pool, .int .i64 c.acc, .int .i64 c.this, .int .i64 c.sup,ifs,flds,mths] 94) (h2:CapB w p1 (.string nm)) (l2:p1<w.heap.size):
  Calls Tryz.prog 104 #[methV x cv tv, .pointer (some ⟨bk,0,none⟩), .pointer (some ⟨p1,0,none⟩)] w fun e w'=>e= .returned (.bool (mflags c.acc x.acc nm.data.toList))∧Below w.heap.size w w':=by
 have HW:=Lib.hid ((Below.refl w.heap.size w).alloc (Nat.le_refl _) (.cells #[.int .i64 x.acc, .int .i64 x.name, .int .i64 x.desc, .bool x.has, .int .i64 x.stack, .int .i64 x.locals,cv,tv] 37))
 have HX:=Lib.hid (h1.below HW.out h1.lt)
 have M0:=Lib.hid (bx_new w [.int .i64 x.acc, .int .i64 x.name, .int .i64 x.desc, .bool x.has, .int .i64 x.stack, .int .i64 x.locals,cv,tv] 37)
 have k2:=h2.alloc l2 (.cells #[.int .i64 x.acc, .int .i64 x.name, .int .i64 x.desc, .bool x.has, .int .i64 x.stack, .int .i64 x.locals,cv,tv] 37)
 have C:=Lib.hid (fun W=>mflags_any x cv tv c pool ifs flds mths nm W)
 clear h1 h2
 rw [bookV_open] at C
 unfold methV at C⊢
 go_enter Tryz.func104,Tryz.ntmps104
 go_wp2_with (first
  | (refine wpList_load_row rfl _ _ rfl bk rfl _ _ _ _ HX.out Tryz.underlying94 rfl (by kernel_rfl) ?_)
  | (refine wpList_load_row rfl _ _ rfl w.heap.size rfl _ _ _ _ M0.out Tryz.underlying37 rfl (by kernel_rfl) ?_)
  | (go_at_call 105;refine(C.out _).mono ?_;rintro e w1 ⟨rfl,hb⟩;have HB:=Lib.hid (HW.out.trans (hb.mono (by simp)));clear hb))
 go_ret
 exact⟨rfl,HB.out⟩
theorem meth7_any (x:MethV) (cv tv:Value) (ok:Nat→Prop) (p1:Nat) (args:ByteArray) (w:World) (h:MethAt w ok x cv tv) (h2:CapB w p1 (.string args)) (l2:p1<w.heap.size) (hs:args.size≤65536):
  Calls Tryz.prog 108 #[methV x cv tv, .pointer (some ⟨p1,0,none⟩)] w fun e w'=>e= .returned (.bool (codeBad x args.size))∧Below w.heap.size w w':=by
 have HW:=Lib.hid ((Below.refl w.heap.size w).alloc (Nat.le_refl _) (.cells #[.int .i64 x.acc, .int .i64 x.name, .int .i64 x.desc, .bool x.has, .int .i64 x.stack, .int .i64 x.locals,cv,tv] 37))
 have M0:=Lib.hid (bx_new w [.int .i64 x.acc, .int .i64 x.name, .int .i64 x.desc, .bool x.has, .int .i64 x.stack, .int .i64 x.locals,cv,tv] 37)
 have k2:=h2.alloc l2 (.cells #[.int .i64 x.acc, .int .i64 x.name, .int .i64 x.desc, .bool x.has, .int .i64 x.stack, .int .i64 x.locals,cv,tv] 37)
 have hA:=h.hcode
 have hB:=h.htraps
 have C:=Lib.hid (code_chk x cv tv ok args (w.alloc (.cells #[.int .i64 x.acc, .int .i64 x.name, .int .i64 x.desc, .bool x.has, .int .i64 x.stack, .int .i64 x.locals,cv,tv] 37)) ⟨h.hcode.keep (Kept.of_below HW.out),h.htraps.keep (Kept.of_below HW.out)⟩ hs)
 obtain⟨Ac,kc,rfl,_,zc⟩:=sl_len h.hcode
 obtain⟨At,kt,rfl,_,zt⟩:=sl_len h.htraps
 clear h h2 hA hB
 unfold methV at C⊢
 go_enter Tryz.func108,Tryz.ntmps108
 go_wp2_with (first
  | (refine wpList_load_row rfl _ _ rfl w.heap.size rfl _ _ _ _ M0.out Tryz.underlying37 rfl (by kernel_rfl) ?_)
  | (go_at_call 109;refine C.out.mono ?_;rintro e w1 ⟨rfl,hb⟩;have HB:=Lib.hid (HW.out.trans (hb.mono (by simp)));clear hb))
 go_ret
 exact⟨rfl,HB.out⟩
def trapNo (pool:List Ko) (t:TrapV):Bool:=((t.kind:Int) !=0)&& !(kindAt pool t.kind 7).isSome
def trapsNo (pool:List Ko) (x:MethV):Bool:=x.has&&x.traps.any (trapNo pool)
theorem meth8_any (x:MethV) (cv tv:Value) (bk:Nat) (c:ClassV) (A:Option Addr) (cap:Nat) (ifs flds mths:Value) (ok ok2:Nat→Prop) (w:World) (h:BookOk w ok c A cap ifs flds mths) (h1:Bx w bk [.int .i64 c.minor, .int .i64 c.major, .slice A c.pool.length cap, .int .i64 c.acc, .int .i64 c.this, .int .i64 c.sup,ifs,flds,mths] 94) (hM:MethAt w ok2 x cv tv) (hf: ∀t∈x.traps,Fine t.kind):
  Calls Tryz.prog 110 #[methV x cv tv, .pointer (some ⟨bk,0,none⟩)] w fun e w'=>e= .returned (.bool (trapsNo c.pool x))∧Below w.heap.size w w':=by
 obtain⟨Ac,kc,rfl,_,zc⟩:=sl_len hM.hcode
 obtain⟨At,kt,rfl,_,zt⟩:=sl_len hM.htraps
 have HW:=Lib.hid ((Below.refl w.heap.size w).alloc (Nat.le_refl _) (.cells #[.int .i64 x.acc, .int .i64 x.name, .int .i64 x.desc, .bool x.has, .int .i64 x.stack, .int .i64 x.locals, .slice Ac x.code.length kc, .slice At x.traps.length kt] 37))
 have HX:=Lib.hid (h1.below HW.out h1.lt)
 have M0:=Lib.hid (bx_new w [.int .i64 x.acc, .int .i64 x.name, .int .i64 x.desc, .bool x.has, .int .i64 x.stack, .int .i64 x.locals, .slice Ac x.code.length kc, .slice At x.traps.length kt] 37)
 have HT:=Lib.hid (hM.htraps.keep (Kept.of_below HW.out))
 have H0:=Lib.hid (h.below HW.out)
 have HF:=Lib.hid hf
 have hz0:(w.alloc (.cells #[.int .i64 x.acc, .int .i64 x.name, .int .i64 x.desc, .bool x.has, .int .i64 x.stack, .int .i64 x.locals, .slice Ac x.code.length kc, .slice At x.traps.length kt] 37)).heap.size=w.heap.size+1:=by simp
 have hbk:=h1.lt
 clear h h1 hM hf
 obtain⟨R,hR⟩: ∃R,trapsNo c.pool x=R:=⟨_,rfl⟩
 rw [hR]
 have HR:=Lib.hid hR
 clear hR
 unfold methV
 go_enter Tryz.func110,Tryz.ntmps110
 go_wp2_with fail
 generalize w.alloc (.cells #[.int .i64 x.acc, .int .i64 x.name, .int .i64 x.desc, .bool x.has, .int .i64 x.stack, .int .i64 x.locals, .slice Ac x.code.length kc, .slice At x.traps.length kt] 37)=w0 at*
 go_loopw [11] (fun i wr=> ∃k:Nat,k≤x.traps.length∧i= .int .i64 k∧w.heap.size+1≤wr.heap.size∧Hid (Below w0.heap.size w0 wr)∧Hid (R=(x.has&&(x.traps.drop k).any (trapNo c.pool)))) (fun i _=>x.traps.length - (RowKit.intOf i).toNat)
 case atStart=>exact⟨0,by omega,rfl,by omega,Lib.hid (Below.refl _ _),Lib.hid (by rw [←HR.out,List.drop_zero];rfl)⟩
 case round=>
  obtain⟨wr1,hwr⟩: ∃W,W=wr:=⟨_,rfl⟩
  subst hwr
  obtain⟨k,hk,rfl,hzr,HBr,HEr⟩:=hrel
  by_cases hlt:k<x.traps.length
  ·obtain⟨t,ht⟩: ∃t,x.traps[k]?=some t:=⟨_,List.getElem?_eq_getElem hlt⟩
   obtain⟨b,off,hAt,hbl,p0,p1,p2,p3⟩:=trap_cells (HT.out.keep (Kept.of_below HBr.out)) k t ht
   subst hAt
   have HFT:=Lib.hid (HF.out t (List.mem_of_getElem? ht))
   obtain⟨has,hhas⟩: ∃v,x.has=v:=⟨_,rfl⟩
   have HDR:=Lib.hid (show R=(has&&(trapNo c.pool t|| (x.traps.drop (k+1)).any (trapNo c.pool))) by
    rw [HEr.out,hhas,List.drop_eq_getElem_cons hlt,List.any_cons]
    congr 2
    rw [List.getElem?_eq_getElem hlt] at ht
    injection ht with ht
    rw [ht])
   have HDS:=Lib.hid (show(x.has&&(x.traps.drop (k+1)).any (trapNo c.pool))=(has&&(x.traps.drop (k+1)).any (trapNo c.pool)) by rw [hhas])
   have Mr:=M0.out.below HBr.out (by omega)
   rw [hhas] at Mr
   have MR:=Lib.hid Mr
   have HXr:=Lib.hid ((HX.out.below HBr.out (by omega)).below ((Below.refl wr1.heap.size wr1).alloc (Nat.le_refl _) (.cells #[.int .i64 t.lo, .int .i64 t.hi, .int .i64 t.tgt, .int .i64 t.kind] 112)) (by omega))
   have H1:=Lib.hid ((H0.out.below HBr.out).below ((Below.refl wr1.heap.size wr1).alloc (Nat.le_refl _) (.cells #[.int .i64 t.lo, .int .i64 t.hi, .int .i64 t.tgt, .int .i64 t.kind] 112)))
   have T0:=Lib.hid (bx_new wr1 [.int .i64 t.lo, .int .i64 t.hi, .int .i64 t.tgt, .int .i64 t.kind] 112)
   have hzt:(wr1.alloc (.cells #[.int .i64 t.lo, .int .i64 t.hi, .int .i64 t.tgt, .int .i64 t.kind] 112)).heap.size=wr1.heap.size+1:=by simp
   obtain⟨x1,x2,x3,x4,x5,x6,x7,x8,x9,x10,x11,x12⟩:=far b wr1.heap.size hbl
   have HB1:=Lib.hid (HBr.out.alloc HBr.out.size (.cells #[.int .i64 t.lo, .int .i64 t.hi, .int .i64 t.tgt, .int .i64 t.kind] 112))
   clear ht HEr Mr hhas HR
   go_wp2_with (first
    | (refine wpList_load_row rfl _ _ rfl bk rfl _ _ _ _ HXr.out Tryz.underlying94 rfl (by kernel_rfl) ?_)
    | (go_at_call 85;refine stop_here ?_))
   refine go_on ?_
   clear p0 p1 p2 p3
   refine(at_book c A cap ifs flds mths t.kind 7 ok _ H1.out.hp H1.out.h1 H1.out.h2 H1.out.h3 HFT.out.2 HFT.out.1).mono ?_
   obtain⟨b1,hb1⟩: ∃v,((t.kind:Int) !=0)=v:=⟨_,rfl⟩
   have HB1F:=Lib.hid hb1
   rcases hk7:kindAt c.pool t.kind 7 with _|ko
   ·have HQ:=Lib.hid (show R=(has&&((b1&&true) || (x.traps.drop (k+1)).any (trapNo c.pool))) by rw [HDR.out];unfold trapNo;rw [hk7,HB1F.out];rfl)
    clear HDR hk7 HB1F
    rintro e w1 ⟨rfl,hb⟩
    simp only [kindV,koV,Option.getD_none,Option.getD_some,Option.isSome_none,Option.isSome_some,koZero]
    have hz1:=hb.size
    have hba:=hb.trans ((Below.refl w1.heap.size w1).alloc (Nat.le_refl _) (.cells #[.int .i64 0, .string ⟨#[]⟩, .int .i64 0, .int .i64 0, .int .i64 0] 33) |>.mono hb.size)
    have HB3:=Lib.hid (HB1.out.trans (hba.mono (Nat.le_trans HBr.out.size (by omega))))
    have m3:=(MR.out.below (((Below.refl wr1.heap.size wr1).alloc (Nat.le_refl _) (.cells #[.int .i64 t.lo, .int .i64 t.hi, .int .i64 t.tgt, .int .i64 t.kind] 112)).trans (hba.mono (by omega))) (by omega)).cell 3 rfl
    have t3:=(T0.out.below hba (by omega)).cell 3 rfl
    have hz3:wr1.heap.size+2≤(w1.alloc (.cells #[.int .i64 0, .string ⟨#[]⟩, .int .i64 0, .int .i64 0, .int .i64 0] 33)).heap.size:=by simp;omega
    clear hba
    clear hb
    cases has<;>cases b1
    ·have HY:=Lib.hid (show R=(x.has&&(x.traps.drop (k+1)).any (trapNo c.pool)) by rw [HQ.out,HDS.out];rfl)
     clear HQ HDS
     go_wp2_with fail
     go_roundw
     case rel=>exact⟨k+1,by omega,by go_num,by omega,HB3,HY⟩
     case measure=>simp [RowKit.intOf];omega
    ·have HY:=Lib.hid (show R=(x.has&&(x.traps.drop (k+1)).any (trapNo c.pool)) by rw [HQ.out,HDS.out];rfl)
     clear HQ HDS
     go_wp2_with fail
     go_roundw
     case rel=>exact⟨k+1,by omega,by go_num,by omega,HB3,HY⟩
     case measure=>simp [RowKit.intOf];omega
    ·have HY:=Lib.hid (show R=(x.has&&(x.traps.drop (k+1)).any (trapNo c.pool)) by rw [HQ.out,HDS.out];rfl)
     clear HQ HDS
     go_wp2_with fail
     go_roundw
     case rel=>exact⟨k+1,by omega,by go_num,by omega,HB3,HY⟩
     case measure=>simp [RowKit.intOf];omega
    ·have HY:=Lib.hid (show R=true by rw [HQ.out];rfl)
     clear HQ HDS
     go_wp2_with fail
     go_ret
     exact⟨by rw [HY.out];rfl,HW.out.trans (HB3.out.mono (by omega))⟩
   ·have HQ:=Lib.hid (show R=(has&&((b1&&false) || (x.traps.drop (k+1)).any (trapNo c.pool))) by rw [HDR.out];unfold trapNo;rw [hk7,HB1F.out];rfl)
    clear HDR hk7 HB1F
    rintro e w1 ⟨rfl,hb⟩
    simp only [kindV,koV,Option.getD_none,Option.getD_some,Option.isSome_none,Option.isSome_some,koZero]
    have hz1:=hb.size
    have hba:=hb.trans ((Below.refl w1.heap.size w1).alloc (Nat.le_refl _) (.cells #[.int .i64 ko.tag, .string ko.text, .int .i64 ko.num, .int .i64 ko.a, .int .i64 ko.b] 33) |>.mono hb.size)
    have HB3:=Lib.hid (HB1.out.trans (hba.mono (Nat.le_trans HBr.out.size (by omega))))
    have m3:=(MR.out.below (((Below.refl wr1.heap.size wr1).alloc (Nat.le_refl _) (.cells #[.int .i64 t.lo, .int .i64 t.hi, .int .i64 t.tgt, .int .i64 t.kind] 112)).trans (hba.mono (by omega))) (by omega)).cell 3 rfl
    have t3:=(T0.out.below hba (by omega)).cell 3 rfl
    have hz3:wr1.heap.size+2≤(w1.alloc (.cells #[.int .i64 ko.tag, .string ko.text, .int .i64 ko.num, .int .i64 ko.a, .int .i64 ko.b] 33)).heap.size:=by simp;omega
    clear hba
    clear hb
    cases has<;>cases b1
    ·have HY:=Lib.hid (show R=(x.has&&(x.traps.drop (k+1)).any (trapNo c.pool)) by rw [HQ.out,HDS.out];rfl)
     clear HQ HDS
     go_wp2_with fail
     go_roundw
     case rel=>exact⟨k+1,by omega,by go_num,by omega,HB3,HY⟩
     case measure=>simp [RowKit.intOf];omega
    ·have HY:=Lib.hid (show R=(x.has&&(x.traps.drop (k+1)).any (trapNo c.pool)) by rw [HQ.out,HDS.out];rfl)
     clear HQ HDS
     go_wp2_with fail
     go_roundw
     case rel=>exact⟨k+1,by omega,by go_num,by omega,HB3,HY⟩
     case measure=>simp [RowKit.intOf];omega
    ·have HY:=Lib.hid (show R=(x.has&&(x.traps.drop (k+1)).any (trapNo c.pool)) by rw [HQ.out,HDS.out];rfl)
     clear HQ HDS
     go_wp2_with fail
     go_roundw
     case rel=>exact⟨k+1,by omega,by go_num,by omega,HB3,HY⟩
     case measure=>simp [RowKit.intOf];omega
    ·have HY:=Lib.hid (show R=(x.has&&(x.traps.drop (k+1)).any (trapNo c.pool)) by rw [HQ.out,HDS.out];rfl)
     clear HQ HDS
     go_wp2_with fail
     go_roundw
     case rel=>exact⟨k+1,by omega,by go_num,by omega,HB3,HY⟩
     case measure=>simp [RowKit.intOf];omega
  ·have HY:=Lib.hid (show R=false by rw [HEr.out,List.drop_of_length_le (by omega)];simp)
   go_wp2_with fail
   go_ret
   exact⟨by rw [HY.out];rfl,HW.out.trans (HBr.out.mono (by omega))⟩
def mthRules (bk p5 p7 p8 p9 p10 p11 p12 p13:Nat):List Value:= [.int .i64 20, .func (.func 101) #[] #[.pointer (some ⟨p8,0,none⟩), .pointer (some ⟨p10,0,none⟩)], .int .i64 21, .func (.func 102) #[] #[.pointer (some ⟨p7,0,none⟩)], .int .i64 22, .func (.func 103) #[] #[.pointer (some ⟨p13,0,none⟩)], .int .i64 23, .func (.func 104) #[] #[.pointer (some ⟨bk,0,none⟩), .pointer (some ⟨p7,0,none⟩)], .int .i64 22, .func (.func 106) #[] #[.pointer (some ⟨p7,0,none⟩), .pointer (some ⟨p12,0,none⟩), .pointer (some ⟨p9,0,none⟩)], .int .i64 24, .func (.func 107) #[] #[.pointer (some ⟨p5,0,none⟩), .pointer (some ⟨p7,0,none⟩), .pointer (some ⟨p9,0,none⟩)], .int .i64 25, .func (.func 108) #[] #[.pointer (some ⟨p11,0,none⟩)], .int .i64 20, .func (.func 110) #[] #[.pointer (some ⟨bk,0,none⟩)]]
def mthRes (b1 b2 b3 b4 b5 b6 b7 b8:Bool):Int:=if b1 then 20 else if b2 then 21 else if b3 then 22 else if b4 then 23 else if b5 then 22 else if b6 then 24 else if b7 then 25 else if b8 then 20 else 0
theorem MethAt.seen {w w':World} {b:Nat} {seen:List NmD} {ok:Nat→Prop} {x:MethV} {cv tv:Value} (h:MethAt w ok x cv tv) (hm:SeenM w b seen) (hb:But w.heap.size [b] w w'):MethAt w' ok x cv tv:=⟨h.hcode.seen hm hb,h.htraps.seen hm hb⟩
structure MthW (c:ClassV) (A:Option Addr) (cap:Nat) (ifs flds mths:Value) (ok ok2:Nat→Prop) (g bk p5 p7 p8 p9 p10 p11 p12 p13 b:Nat) (nm d args ret:ByteArray) (one two is:Bool) (x:MethV) (cv tv:Value) (seen:List NmD) (fb:Nat) (W:World):Prop where
 gg:Bx W g (mthRules bk p5 p7 p8 p9 p10 p11 p12 p13) 164
 kk:Bx W bk [.int .i64 c.minor, .int .i64 c.major, .slice A c.pool.length cap, .int .i64 c.acc, .int .i64 c.this, .int .i64 c.sup,ifs,flds,mths] 94
 xx:Bx W fb [.int .i64 x.acc, .int .i64 x.name, .int .i64 x.desc, .bool x.has, .int .i64 x.stack, .int .i64 x.locals,cv,tv] 37
 c5:CapB W p5 (.map (some b))
 c7:CapB W p7 (.string nm)
 c8:CapB W p8 (.bool one)
 c9:CapB W p9 (.string d)
 c10:CapB W p10 (.bool two)
 c11:CapB W p11 (.string args)
 c12:CapB W p12 (.string ret)
 c13:CapB W p13 (.bool is)
 bo:BookOk W ok c A cap ifs flds mths
 ma:MethAt W ok2 x cv tv
 sm:SeenM W b seen
theorem MthW.below {c:ClassV} {A:Option Addr} {cap:Nat} {ifs flds mths:Value} {ok ok2:Nat→Prop} {g bk p5 p7 p8 p9 p10 p11 p12 p13 b:Nat} {nm d args ret:ByteArray} {one two is:Bool} {x:MethV} {cv tv:Value} {seen:List NmD} {fb:Nat} {W W':World} (h:MthW c A cap ifs flds mths ok ok2 g bk p5 p7 p8 p9 p10 p11 p12 p13 b nm d args ret one two is x cv tv seen fb W) (hb:Below W.heap.size W W'):MthW c A cap ifs flds mths ok ok2 g bk p5 p7 p8 p9 p10 p11 p12 p13 b nm d args ret one two is x cv tv seen fb W':=
 ⟨h.gg.below hb h.gg.lt,h.kk.below hb h.kk.lt,h.xx.below hb h.xx.lt,h.c5.below hb,h.c7.below hb,h.c8.below hb,h.c9.below hb,h.c10.below hb,h.c11.below hb,h.c12.below hb,h.c13.below hb,h.bo.below hb,⟨h.ma.hcode.keep (Kept.of_below hb),h.ma.htraps.keep (Kept.of_below hb)⟩,h.sm.below hb⟩
theorem MthW.seen {c:ClassV} {A:Option Addr} {cap:Nat} {ifs flds mths:Value} {ok ok2:Nat→Prop} {g bk p5 p7 p8 p9 p10 p11 p12 p13 b:Nat} {nm d args ret:ByteArray} {one two is:Bool} {x:MethV} {cv tv:Value} {seen seen':List NmD} {fb:Nat} {W W':World} (h:MthW c A cap ifs flds mths ok ok2 g bk p5 p7 p8 p9 p10 p11 p12 p13 b nm d args ret one two is x cv tv seen fb W) (hb:But W.heap.size [b] W W') (hs:SeenM W' b seen'):MthW c A cap ifs flds mths ok ok2 g bk p5 p7 p8 p9 p10 p11 p12 p13 b nm d args ret one two is x cv tv seen' fb W':=
 ⟨h.gg.but hb (ne_one (h.sm.apart (h.gg.cell 0 rfl))),h.kk.but hb (ne_one (h.sm.apart (h.kk.cell 0 rfl))),h.xx.but hb (ne_one (h.sm.apart (h.xx.cell 0 rfl))),h.c5.seen h.sm hb,h.c7.seen h.sm hb,h.c8.seen h.sm hb,h.c9.seen h.sm hb,h.c10.seen h.sm hb,h.c11.seen h.sm hb,h.c12.seen h.sm hb,h.c13.seen h.sm hb,⟨h.bo.hp.seen h.sm hb,h.bo.h1,h.bo.h2,h.bo.h3⟩,h.ma.seen h.sm hb,hs⟩
theorem first_method (c:ClassV) (A:Option Addr) (cap:Nat) (ifs flds mths:Value) (ok ok2:Nat→Prop) (g bk p5 p7 p8 p9 p10 p11 p12 p13 b:Nat) (nm d args ret:ByteArray) (one two is:Bool) (x:MethV) (cv tv:Value) (hcv:cv.oneCell'=true) (htv:tv.oneCell'=true) (seen:List NmD) (w:World) (hF:MthW c A cap ifs flds mths ok ok2 g bk p5 p7 p8 p9 p10 p11 p12 p13 b nm d args ret one two is x cv tv seen w.heap.size (w.alloc (.cells #[.int .i64 x.acc, .int .i64 x.name, .int .i64 x.desc, .bool x.has, .int .i64 x.stack, .int .i64 x.locals,cv,tv] 37))) (hlb:b<w.heap.size) (hs2:nm.size≤65536) (hs3:d.size≤65536) (hs4:args.size≤65536) (hlen:seen.length≤1048576) (hn: ∀t∈x.traps,Fine t.kind):
  Calls Tryz.prog 100 #[methV x cv tv, .slice (some ⟨g,0,none⟩) 8 8] w fun e w'=>
   e= .returned (.int .i64 (mthRes (!one|| !two) (!methodNB nm.data.toList) (!is) (mflags c.acc x.acc nm.data.toList) (mthRet nm.data.toList ret.data.toList d.data.toList) (decide ((nm.data.toList,d.data.toList)∈seen)) (codeBad x args.size) (trapsNo c.pool x)))∧But w.heap.size [b] w w'∧
   SeenM w' b (if(!one|| !two) || !methodNB nm.data.toList|| !is||mflags c.acc x.acc nm.data.toList||mthRet nm.data.toList ret.data.toList d.data.toList then seen else(nm.data.toList,d.data.toList)::seen):=by
 have HB0:=Lib.hid (But.of_below (S:= [b]) ((Below.refl w.heap.size w).alloc (Nat.le_refl _) (.cells #[.int .i64 x.acc, .int .i64 x.name, .int .i64 x.desc, .bool x.has, .int .i64 x.stack, .int .i64 x.locals,cv,tv] 37)))
 have F0:=Lib.hid hF
 have HN:=Lib.hid hn
 have HCV:=Lib.hid hcv
 have HTV:=Lib.hid htv
 obtain⟨v1,e1⟩: ∃v,(!one|| !two)=v:=⟨_,rfl⟩
 obtain⟨v2,e2⟩: ∃v,(!methodNB nm.data.toList)=v:=⟨_,rfl⟩
 obtain⟨v3,e3⟩: ∃v,(!is)=v:=⟨_,rfl⟩
 obtain⟨v4,e4⟩: ∃v,mflags c.acc x.acc nm.data.toList=v:=⟨_,rfl⟩
 obtain⟨v5,e5⟩: ∃v,mthRet nm.data.toList ret.data.toList d.data.toList=v:=⟨_,rfl⟩
 obtain⟨v6,e6⟩: ∃v,decide ((nm.data.toList,d.data.toList)∈seen)=v:=⟨_,rfl⟩
 obtain⟨v7,e7⟩: ∃v,codeBad x args.size=v:=⟨_,rfl⟩
 obtain⟨v8,e8⟩: ∃v,trapsNo c.pool x=v:=⟨_,rfl⟩
 rw [e1,e2,e3,e4,e5,e6,e7,e8]
 have E1:=Lib.hid e1
 have E2:=Lib.hid e2
 have E3:=Lib.hid e3
 have E4:=Lib.hid e4
 have E5:=Lib.hid e5
 have E6:=Lib.hid e6
 have E7:=Lib.hid e7
 have E8:=Lib.hid e8
 clear hF hn hcv htv e1 e2 e3 e4 e5 e6 e7 e8
 have hz0:(w.alloc (.cells #[.int .i64 x.acc, .int .i64 x.name, .int .i64 x.desc, .bool x.has, .int .i64 x.stack, .int .i64 x.locals,cv,tv] 37)).heap.size=w.heap.size+1:=by simp
 unfold methV
 go_enter Tryz.func100,Tryz.ntmps100
 go_wp2_with fail
 refine wp_loop_rounds 9 ?_
 generalize w.alloc (.cells #[.int .i64 x.acc, .int .i64 x.name, .int .i64 x.desc, .bool x.has, .int .i64 x.stack, .int .i64 x.locals,cv,tv] 37)=w0 at*
 clear hz0
 have g0:=F0.out.gg.cell 0 rfl
 have g1:=F0.out.gg.cell 1 rfl
 have hxl:=F0.out.xx.lt
 have G0:=Lib.hid (F0.out.below ((Below.refl w0.heap.size w0).alloc (Nat.le_refl _) (.cells #[.int .i64 20, .func (.func 101) #[] #[.pointer (some ⟨p8,0,none⟩), .pointer (some ⟨p10,0,none⟩)]] 164)))
 have R0:=Lib.hid (bx_new w0 [.int .i64 20, .func (.func 101) #[] #[.pointer (some ⟨p8,0,none⟩), .pointer (some ⟨p10,0,none⟩)]] 164)
 have HC0:=Lib.hid (HB0.out.trans ((But.of_below (S:= [b]) ((Below.refl w0.heap.size w0).alloc (Nat.le_refl _) (.cells #[.int .i64 20, .func (.func 101) #[] #[.pointer (some ⟨p8,0,none⟩), .pointer (some ⟨p10,0,none⟩)]] 164))).mono HB0.out.size (fun _ _ h=>h)))
 have hzr:(w0.alloc (.cells #[.int .i64 20, .func (.func 101) #[] #[.pointer (some ⟨p8,0,none⟩), .pointer (some ⟨p10,0,none⟩)]] 164)).heap.size=w0.heap.size+1:=by simp
 rw [rounds_succ]
 go_wp2_with (first
  | (refine wpList_load_row rfl _ _ rfl w.heap.size rfl _ _ _ _ G0.out.xx Tryz.underlying37 rfl (by kernel_rfl) ?_)
  | (go_at_call 101;refine stop_here ?_))
 refine go_on ?_
 clear g0 g1
 refine(meth1_any x cv tv p8 p10 one two _ G0.out.c8 G0.out.c10 (cells_lt G0.out.c8) (cells_lt G0.out.c10)).mono ?_
 rw [E1.out]
 rintro e w1 ⟨rfl,hb⟩
 have HB1:=Lib.hid (HC0.out.trans ((But.of_below (S:= [b]) hb).mono (by have:=HC0.out.size;omega) (fun _ _ h=>h)))
 have F1:=Lib.hid (G0.out.below hb)
 have r0:=(R0.out.below hb (by omega)).cell 0 rfl
 have hz1:=hb.size
 clear hb
 cases v1 with
 |true=>
  go_wp2_with fail
  go_ret
  exact⟨rfl,HB1.out,F1.out.sm⟩
 |false=>
  go_wp2_with fail
  have g0:=F1.out.gg.cell 2 rfl
  have g1:=F1.out.gg.cell 3 rfl
  have hxl:=F1.out.xx.lt
  have G1:=Lib.hid (F1.out.below ((Below.refl w1.heap.size w1).alloc (Nat.le_refl _) (.cells #[.int .i64 21, .func (.func 102) #[] #[.pointer (some ⟨p7,0,none⟩)]] 164)))
  have R1:=Lib.hid (bx_new w1 [.int .i64 21, .func (.func 102) #[] #[.pointer (some ⟨p7,0,none⟩)]] 164)
  have HC1:=Lib.hid (HB1.out.trans ((But.of_below (S:= [b]) ((Below.refl w1.heap.size w1).alloc (Nat.le_refl _) (.cells #[.int .i64 21, .func (.func 102) #[] #[.pointer (some ⟨p7,0,none⟩)]] 164))).mono HB1.out.size (fun _ _ h=>h)))
  have hzr:(w1.alloc (.cells #[.int .i64 21, .func (.func 102) #[] #[.pointer (some ⟨p7,0,none⟩)]] 164)).heap.size=w1.heap.size+1:=by simp
  rw [rounds_succ]
  go_wp2_with (first
   | (refine wpList_load_row rfl _ _ rfl w.heap.size rfl _ _ _ _ G1.out.xx Tryz.underlying37 rfl (by kernel_rfl) ?_)
   | (go_at_call 102;refine stop_here ?_))
  refine go_on ?_
  clear g0 g1
  refine(meth2_any x cv tv p7 nm _ G1.out.c7 (cells_lt G1.out.c7) hs2).mono ?_
  rw [E2.out]
  rintro e w2 ⟨rfl,hb⟩
  have HB2:=Lib.hid (HC1.out.trans ((But.of_below (S:= [b]) hb).mono (by have:=HC1.out.size;omega) (fun _ _ h=>h)))
  have F2:=Lib.hid (G1.out.below hb)
  have r0:=(R1.out.below hb (by omega)).cell 0 rfl
  have hz2:=hb.size
  clear hb
  cases v2 with
  |true=>
   go_wp2_with fail
   go_ret
   exact⟨rfl,HB2.out,F2.out.sm⟩
  |false=>
   go_wp2_with fail
   have g0:=F2.out.gg.cell 4 rfl
   have g1:=F2.out.gg.cell 5 rfl
   have hxl:=F2.out.xx.lt
   have G2:=Lib.hid (F2.out.below ((Below.refl w2.heap.size w2).alloc (Nat.le_refl _) (.cells #[.int .i64 22, .func (.func 103) #[] #[.pointer (some ⟨p13,0,none⟩)]] 164)))
   have R2:=Lib.hid (bx_new w2 [.int .i64 22, .func (.func 103) #[] #[.pointer (some ⟨p13,0,none⟩)]] 164)
   have HC2:=Lib.hid (HB2.out.trans ((But.of_below (S:= [b]) ((Below.refl w2.heap.size w2).alloc (Nat.le_refl _) (.cells #[.int .i64 22, .func (.func 103) #[] #[.pointer (some ⟨p13,0,none⟩)]] 164))).mono HB2.out.size (fun _ _ h=>h)))
   have hzr:(w2.alloc (.cells #[.int .i64 22, .func (.func 103) #[] #[.pointer (some ⟨p13,0,none⟩)]] 164)).heap.size=w2.heap.size+1:=by simp
   rw [rounds_succ]
   go_wp2_with (first
    | (refine wpList_load_row rfl _ _ rfl w.heap.size rfl _ _ _ _ G2.out.xx Tryz.underlying37 rfl (by kernel_rfl) ?_)
    | (go_at_call 103;refine stop_here ?_))
   refine go_on ?_
   clear g0 g1
   refine(meth3_any x cv tv p13 is _ G2.out.c13 (cells_lt G2.out.c13)).mono ?_
   rw [E3.out]
   rintro e w3 ⟨rfl,hb⟩
   have HB3:=Lib.hid (HC2.out.trans ((But.of_below (S:= [b]) hb).mono (by have:=HC2.out.size;omega) (fun _ _ h=>h)))
   have F3:=Lib.hid (G2.out.below hb)
   have r0:=(R2.out.below hb (by omega)).cell 0 rfl
   have hz3:=hb.size
   clear hb
   cases v3 with
   |true=>
    go_wp2_with fail
    go_ret
    exact⟨rfl,HB3.out,F3.out.sm⟩
   |false=>
    go_wp2_with fail
    have g0:=F3.out.gg.cell 6 rfl
    have g1:=F3.out.gg.cell 7 rfl
    have hxl:=F3.out.xx.lt
    have G3:=Lib.hid (F3.out.below ((Below.refl w3.heap.size w3).alloc (Nat.le_refl _) (.cells #[.int .i64 23, .func (.func 104) #[] #[.pointer (some ⟨bk,0,none⟩), .pointer (some ⟨p7,0,none⟩)]] 164)))
    have R3:=Lib.hid (bx_new w3 [.int .i64 23, .func (.func 104) #[] #[.pointer (some ⟨bk,0,none⟩), .pointer (some ⟨p7,0,none⟩)]] 164)
    have HC3:=Lib.hid (HB3.out.trans ((But.of_below (S:= [b]) ((Below.refl w3.heap.size w3).alloc (Nat.le_refl _) (.cells #[.int .i64 23, .func (.func 104) #[] #[.pointer (some ⟨bk,0,none⟩), .pointer (some ⟨p7,0,none⟩)]] 164))).mono HB3.out.size (fun _ _ h=>h)))
    have hzr:(w3.alloc (.cells #[.int .i64 23, .func (.func 104) #[] #[.pointer (some ⟨bk,0,none⟩), .pointer (some ⟨p7,0,none⟩)]] 164)).heap.size=w3.heap.size+1:=by simp
    rw [rounds_succ]
    go_wp2_with (first
     | (refine wpList_load_row rfl _ _ rfl w.heap.size rfl _ _ _ _ G3.out.xx Tryz.underlying37 rfl (by kernel_rfl) ?_)
     | (go_at_call 104;refine stop_here ?_))
    refine go_on ?_
    clear g0 g1
    refine(meth4_any x cv tv HCV.out HTV.out bk p7 nm c _ ifs flds mths _ G3.out.kk G3.out.c7 (cells_lt G3.out.c7)).mono ?_
    rw [E4.out]
    rintro e w4 ⟨rfl,hb⟩
    have HB4:=Lib.hid (HC3.out.trans ((But.of_below (S:= [b]) hb).mono (by have:=HC3.out.size;omega) (fun _ _ h=>h)))
    have F4:=Lib.hid (G3.out.below hb)
    have r0:=(R3.out.below hb (by omega)).cell 0 rfl
    have hz4:=hb.size
    clear hb
    cases v4 with
    |true=>
     go_wp2_with fail
     go_ret
     exact⟨rfl,HB4.out,F4.out.sm⟩
    |false=>
     go_wp2_with fail
     have g0:=F4.out.gg.cell 8 rfl
     have g1:=F4.out.gg.cell 9 rfl
     have hxl:=F4.out.xx.lt
     have G4:=Lib.hid (F4.out.below ((Below.refl w4.heap.size w4).alloc (Nat.le_refl _) (.cells #[.int .i64 22, .func (.func 106) #[] #[.pointer (some ⟨p7,0,none⟩), .pointer (some ⟨p12,0,none⟩), .pointer (some ⟨p9,0,none⟩)]] 164)))
     have R4:=Lib.hid (bx_new w4 [.int .i64 22, .func (.func 106) #[] #[.pointer (some ⟨p7,0,none⟩), .pointer (some ⟨p12,0,none⟩), .pointer (some ⟨p9,0,none⟩)]] 164)
     have HC4:=Lib.hid (HB4.out.trans ((But.of_below (S:= [b]) ((Below.refl w4.heap.size w4).alloc (Nat.le_refl _) (.cells #[.int .i64 22, .func (.func 106) #[] #[.pointer (some ⟨p7,0,none⟩), .pointer (some ⟨p12,0,none⟩), .pointer (some ⟨p9,0,none⟩)]] 164))).mono HB4.out.size (fun _ _ h=>h)))
     have hzr:(w4.alloc (.cells #[.int .i64 22, .func (.func 106) #[] #[.pointer (some ⟨p7,0,none⟩), .pointer (some ⟨p12,0,none⟩), .pointer (some ⟨p9,0,none⟩)]] 164)).heap.size=w4.heap.size+1:=by simp
     rw [rounds_succ]
     go_wp2_with (first
      | (refine wpList_load_row rfl _ _ rfl w.heap.size rfl _ _ _ _ G4.out.xx Tryz.underlying37 rfl (by kernel_rfl) ?_)
      | (go_at_call 106;refine stop_here ?_))
     refine go_on ?_
     clear g0 g1
     refine(meth5_any x cv tv p7 p12 p9 nm ret d _ G4.out.c7 G4.out.c12 G4.out.c9 (cells_lt G4.out.c7) (cells_lt G4.out.c12) (cells_lt G4.out.c9)).mono ?_
     rw [E5.out]
     rintro e w5 ⟨rfl,hb⟩
     have HB5:=Lib.hid (HC4.out.trans ((But.of_below (S:= [b]) hb).mono (by have:=HC4.out.size;omega) (fun _ _ h=>h)))
     have F5:=Lib.hid (G4.out.below hb)
     have r0:=(R4.out.below hb (by omega)).cell 0 rfl
     have hz5:=hb.size
     clear hb
     cases v5 with
     |true=>
      go_wp2_with fail
      go_ret
      exact⟨rfl,HB5.out,F5.out.sm⟩
     |false=>
      go_wp2_with fail
      have g0:=F5.out.gg.cell 10 rfl
      have g1:=F5.out.gg.cell 11 rfl
      have hxl:=F5.out.xx.lt
      have G5:=Lib.hid (F5.out.below ((Below.refl w5.heap.size w5).alloc (Nat.le_refl _) (.cells #[.int .i64 24, .func (.func 107) #[] #[.pointer (some ⟨p5,0,none⟩), .pointer (some ⟨p7,0,none⟩), .pointer (some ⟨p9,0,none⟩)]] 164)))
      have R5:=Lib.hid (bx_new w5 [.int .i64 24, .func (.func 107) #[] #[.pointer (some ⟨p5,0,none⟩), .pointer (some ⟨p7,0,none⟩), .pointer (some ⟨p9,0,none⟩)]] 164)
      have HC5:=Lib.hid (HB5.out.trans ((But.of_below (S:= [b]) ((Below.refl w5.heap.size w5).alloc (Nat.le_refl _) (.cells #[.int .i64 24, .func (.func 107) #[] #[.pointer (some ⟨p5,0,none⟩), .pointer (some ⟨p7,0,none⟩), .pointer (some ⟨p9,0,none⟩)]] 164))).mono HB5.out.size (fun _ _ h=>h)))
      have hzr:(w5.alloc (.cells #[.int .i64 24, .func (.func 107) #[] #[.pointer (some ⟨p5,0,none⟩), .pointer (some ⟨p7,0,none⟩), .pointer (some ⟨p9,0,none⟩)]] 164)).heap.size=w5.heap.size+1:=by simp
      rw [rounds_succ]
      go_wp2_with (first
       | (refine wpList_load_row rfl _ _ rfl w.heap.size rfl _ _ _ _ G5.out.xx Tryz.underlying37 rfl (by kernel_rfl) ?_)
       | (go_at_call 107;refine stop_here ?_))
      refine go_on ?_
      clear g0 g1
      refine(meth6_any x cv tv p5 p7 p9 b nm d seen _ G5.out.c5 G5.out.c7 G5.out.c9 (cells_lt G5.out.c5) (cells_lt G5.out.c7) (cells_lt G5.out.c9) hs2 hs3 hlen G5.out.sm).mono ?_
      rw [E6.out]
      rintro e w6 ⟨rfl,hb,hsm⟩
      have HB6:=Lib.hid (HC5.out.trans (hb.mono (by have:=HC5.out.size;omega) (fun _ _ h=>h)))
      have F6:=Lib.hid (G5.out.seen hb hsm)
      have r0:=(R5.out.but hb (ne_one (by have:=F5.out.sm.lt;omega))).cell 0 rfl
      have hz6:=hb.size
      clear hb hsm
      cases v6 with
      |true=>
       go_wp2_with fail
       go_ret
       exact⟨rfl,HB6.out,F6.out.sm⟩
      |false=>
       go_wp2_with fail
       have g0:=F6.out.gg.cell 12 rfl
       have g1:=F6.out.gg.cell 13 rfl
       have hxl:=F6.out.xx.lt
       have G6:=Lib.hid (F6.out.below ((Below.refl w6.heap.size w6).alloc (Nat.le_refl _) (.cells #[.int .i64 25, .func (.func 108) #[] #[.pointer (some ⟨p11,0,none⟩)]] 164)))
       have R6:=Lib.hid (bx_new w6 [.int .i64 25, .func (.func 108) #[] #[.pointer (some ⟨p11,0,none⟩)]] 164)
       have HC6:=Lib.hid (HB6.out.trans ((But.of_below (S:= [b]) ((Below.refl w6.heap.size w6).alloc (Nat.le_refl _) (.cells #[.int .i64 25, .func (.func 108) #[] #[.pointer (some ⟨p11,0,none⟩)]] 164))).mono HB6.out.size (fun _ _ h=>h)))
       have hzr:(w6.alloc (.cells #[.int .i64 25, .func (.func 108) #[] #[.pointer (some ⟨p11,0,none⟩)]] 164)).heap.size=w6.heap.size+1:=by simp
       rw [rounds_succ]
       go_wp2_with (first
        | (refine wpList_load_row rfl _ _ rfl w.heap.size rfl _ _ _ _ G6.out.xx Tryz.underlying37 rfl (by kernel_rfl) ?_)
        | (go_at_call 108;refine stop_here ?_))
       refine go_on ?_
       clear g0 g1
       refine(meth7_any x cv tv ok2 p11 args _ G6.out.ma G6.out.c11 (cells_lt G6.out.c11) hs4).mono ?_
       rw [E7.out]
       rintro e w7 ⟨rfl,hb⟩
       have HB7:=Lib.hid (HC6.out.trans ((But.of_below (S:= [b]) hb).mono (by have:=HC6.out.size;omega) (fun _ _ h=>h)))
       have F7:=Lib.hid (G6.out.below hb)
       have r0:=(R6.out.below hb (by omega)).cell 0 rfl
       have hz7:=hb.size
       clear hb
       cases v7 with
       |true=>
        go_wp2_with fail
        go_ret
        exact⟨rfl,HB7.out,F7.out.sm⟩
       |false=>
        go_wp2_with fail
        have g0:=F7.out.gg.cell 14 rfl
        have g1:=F7.out.gg.cell 15 rfl
        have hxl:=F7.out.xx.lt
        have G7:=Lib.hid (F7.out.below ((Below.refl w7.heap.size w7).alloc (Nat.le_refl _) (.cells #[.int .i64 20, .func (.func 110) #[] #[.pointer (some ⟨bk,0,none⟩)]] 164)))
        have R7:=Lib.hid (bx_new w7 [.int .i64 20, .func (.func 110) #[] #[.pointer (some ⟨bk,0,none⟩)]] 164)
        have HC7:=Lib.hid (HB7.out.trans ((But.of_below (S:= [b]) ((Below.refl w7.heap.size w7).alloc (Nat.le_refl _) (.cells #[.int .i64 20, .func (.func 110) #[] #[.pointer (some ⟨bk,0,none⟩)]] 164))).mono HB7.out.size (fun _ _ h=>h)))
        have hzr:(w7.alloc (.cells #[.int .i64 20, .func (.func 110) #[] #[.pointer (some ⟨bk,0,none⟩)]] 164)).heap.size=w7.heap.size+1:=by simp
        rw [rounds_succ]
        go_wp2_with (first
         | (refine wpList_load_row rfl _ _ rfl w.heap.size rfl _ _ _ _ G7.out.xx Tryz.underlying37 rfl (by kernel_rfl) ?_)
         | (go_at_call 110;refine stop_here ?_))
        refine go_on ?_
        clear g0 g1
        refine(meth8_any x cv tv bk c A cap ifs flds mths ok ok2 _ G7.out.bo G7.out.kk G7.out.ma HN.out).mono ?_
        rw [E8.out]
        rintro e w8 ⟨rfl,hb⟩
        have HB8:=Lib.hid (HC7.out.trans ((But.of_below (S:= [b]) hb).mono (by have:=HC7.out.size;omega) (fun _ _ h=>h)))
        have F8:=Lib.hid (G7.out.below hb)
        have r0:=(R7.out.below hb (by omega)).cell 0 rfl
        have hz8:=hb.size
        clear hb
        cases v8 with
        |true=>
         go_wp2_with fail
         go_ret
         exact⟨rfl,HB8.out,F8.out.sm⟩
        |false=>
         go_wp2_with fail
         rw [rounds_succ]
         go_wp2_with fail
         go_ret
         exact⟨rfl,HB8.out,F8.out.sm⟩
theorem argsKm_len: ∀(f:Nat) (r:ByteArray) (args:List UInt8) (e:Nat),args.length≤16→(argsK f r args e).2.1.length≤16
 |0,r,args,e,h=>by rw [argsK];exact h
 |f+1,r,args,e,h=>by
  rw [argsK]
  by_cases h1:r.size=0
  ·rw [if_pos h1];exact h
  ·rw [if_neg h1]
   by_cases h2:r.data.toList.headD 0=41
   ·rw [if_pos h2];exact h
   ·rw [if_neg h2]
    by_cases h3:fieldB (r.extract 0 (partLen r)).data.toList=false∨args.length=16
    ·rw [if_pos h3];exact h
    ·rw [if_neg h3]
     exact argsKm_len f _ _ _ (by rw [List.length_append];simp only [List.length_cons,List.length_nil];omega)
theorem kinds_small (s:ByteArray):(kindsV s).1.size≤16:=by
 unfold kindsV
 by_cases h1:s.size=0∨s.data.toList.headD 0≠40∨255<s.size
 ·rw [if_pos h1];decide
 ·rw [if_neg h1]
  have hl:=argsKm_len 256 (s.extract 1 s.size) [] 1 (by simp)
  obtain⟨⟨good,args,e⟩,hv⟩: ∃v,argsK 256 (s.extract 1 s.size) [] 1=v:=⟨_,rfl⟩
  rw [hv] at hl⊢
  dsimp only
  by_cases h2:good=false∨s.size≤e∨s.data.toList.getD e 0≠41
  ·rw [if_pos h2];decide
  ·rw [if_neg h2]
   by_cases h3:(s.extract (e+1) s.size).data.toList≠ [86]∧fieldB (s.extract (e+1) s.size).data.toList=false
   ·rw [if_pos h3];decide
   ·rw [if_neg h3]
    show args.toArray.size≤16
    simpa using hl
def mthBad (pool:List Ko) (cacc:Int) (x:MethV):Bool:=(!(textAt pool x.name).isSome|| !(textAt pool x.desc).isSome) || !methodNB ((textAt pool x.name).getD ⟨#[]⟩).data.toList|| !(kindsV ((textAt pool x.desc).getD ⟨#[]⟩)).2.2||mflags cacc x.acc ((textAt pool x.name).getD ⟨#[]⟩).data.toList||mthRet ((textAt pool x.name).getD ⟨#[]⟩).data.toList (kindsV ((textAt pool x.desc).getD ⟨#[]⟩)).2.1.data.toList ((textAt pool x.desc).getD ⟨#[]⟩).data.toList
def mthIn (pool:List Ko) (cacc:Int) (seen:List NmD) (x:MethV):Int:=mthRes (!(textAt pool x.name).isSome|| !(textAt pool x.desc).isSome) (!methodNB ((textAt pool x.name).getD ⟨#[]⟩).data.toList) (!(kindsV ((textAt pool x.desc).getD ⟨#[]⟩)).2.2) (mflags cacc x.acc ((textAt pool x.name).getD ⟨#[]⟩).data.toList) (mthRet ((textAt pool x.name).getD ⟨#[]⟩).data.toList (kindsV ((textAt pool x.desc).getD ⟨#[]⟩)).2.1.data.toList ((textAt pool x.desc).getD ⟨#[]⟩).data.toList) (decide ((((textAt pool x.name).getD ⟨#[]⟩).data.toList,((textAt pool x.desc).getD ⟨#[]⟩).data.toList)∈seen)) (codeBad x (kindsV ((textAt pool x.desc).getD ⟨#[]⟩)).1.size) (trapsNo pool x)
theorem method_book (c:ClassV) (A:Option Addr) (cap:Nat) (ifs flds mths:Value) (ok ok2:Nat→Prop) (x:MethV) (cv tv:Value) (b:Nat) (seen:List NmD) (w:World) (h:BookOk w ok c A cap ifs flds mths) (hM:MethAt w ok2 x cv tv) (hs:SeenM w b seen) (hlen:seen.length≤1048576) (hn1:Fine x.name) (hn2:Fine x.desc) (hn3: ∀t∈x.traps,Fine t.kind) (ht: ∀k∈c.pool,k.text.size≤65536):
  Calls Tryz.prog 39 #[bookV c (.slice A c.pool.length cap) ifs flds mths,methV x cv tv, .map (some b)] w fun e w'=>
   e= .returned (.int .i64 (mthIn c.pool c.acc seen x))∧But w.heap.size [b] w w'∧SeenM w' b (if mthBad c.pool c.acc x then seen else nmOf c.pool x.name x.desc::seen):=by
 have hcv:cv.oneCell'=true:=by obtain⟨Ac,kc,rfl,_,zc⟩:=sl_len hM.hcode;rfl
 have htv:tv.oneCell'=true:=by obtain⟨Ac,kc,rfl,_,zc⟩:=sl_len hM.htraps;rfl
 have hmf: ∀(fn:Fn) (first cap:Array Value) (w:World),(Instr.makeFunc fn first cap).run Tryz.prog w= .ok (.func fn first cap) w:=fun _ _ _ _=>rfl
 have BW0:=Lib.hid ((((Below.refl w.heap.size w).alloc (Nat.le_refl _) (.cells #[.int .i64 c.minor, .int .i64 c.major, .slice A c.pool.length cap, .int .i64 c.acc, .int .i64 c.this, .int .i64 c.sup,ifs,flds,mths] 94)).alloc (by simp) (.cells #[.int .i64 x.acc, .int .i64 x.name, .int .i64 x.desc, .bool x.has, .int .i64 x.stack, .int .i64 x.locals,cv,tv] 37)).alloc (by simp<;>omega) (.cells #[.map (some b)] 95))
 have X0:=Lib.hid ((bx_new w [.int .i64 c.minor, .int .i64 c.major, .slice A c.pool.length cap, .int .i64 c.acc, .int .i64 c.this, .int .i64 c.sup,ifs,flds,mths] 94).below (((Below.refl _ _).alloc (Nat.le_refl _) (.cells #[.int .i64 x.acc, .int .i64 x.name, .int .i64 x.desc, .bool x.has, .int .i64 x.stack, .int .i64 x.locals,cv,tv] 37)).alloc (by simp) (.cells #[.map (some b)] 95)) (by simp))
 have F0:=Lib.hid ((bx_new_at (w.alloc (.cells #[.int .i64 c.minor, .int .i64 c.major, .slice A c.pool.length cap, .int .i64 c.acc, .int .i64 c.this, .int .i64 c.sup,ifs,flds,mths] 94)) [.int .i64 x.acc, .int .i64 x.name, .int .i64 x.desc, .bool x.has, .int .i64 x.stack, .int .i64 x.locals,cv,tv] 37 (w.heap.size+1) (by simp)).below ((Below.refl _ _).alloc (Nat.le_refl _) (.cells #[.map (some b)] 95)) (by simp))
 have C5:=Lib.hid (show CapB _ (w.heap.size+2) (.map (some b)) from(bx_new_at ((w.alloc (.cells #[.int .i64 c.minor, .int .i64 c.major, .slice A c.pool.length cap, .int .i64 c.acc, .int .i64 c.this, .int .i64 c.sup,ifs,flds,mths] 94)).alloc (.cells #[.int .i64 x.acc, .int .i64 x.name, .int .i64 x.desc, .bool x.has, .int .i64 x.stack, .int .i64 x.locals,cv,tv] 37)) [.map (some b)] 95 (w.heap.size+2) (by simp)).cell 0 rfl)
 have H0:=Lib.hid (h.below BW0.out)
 have S0:=Lib.hid (hs.below BW0.out)
 have hbl:=hs.lt
 have HM:=Lib.hid hM
 have HN1:=Lib.hid hn1
 have HN2:=Lib.hid hn2
 have HN3:=Lib.hid hn3
 have HT:=Lib.hid ht
 have hs2:=text_le (n:=x.name) ht
 have hs3:=text_le (n:=x.desc) ht
 clear h hs hn1 hn2 hn3 ht hM
 rw [bookV_open]
 unfold methV mthIn mthBad nmOf
 obtain⟨tn,htn⟩: ∃s,textAt c.pool x.name=s:=⟨_,rfl⟩
 obtain⟨td,htd⟩: ∃s,textAt c.pool x.desc=s:=⟨_,rfl⟩
 rw [htn] at hs2⊢
 rw [htd] at hs3⊢
 have HTD:=Lib.hid htd
 have HTN:=Lib.hid htn
 clear htn htd
 have hs4:=kinds_small (td.getD ⟨#[]⟩)
 have HKD:=Lib.hid (fun W=>kinds_any (td.getD ⟨#[]⟩) W (by omega))
 obtain⟨⟨args,ret,is⟩,hkv⟩: ∃v,kindsV (td.getD ⟨#[]⟩)=v:=⟨_,rfl⟩
 rw [hkv] at HKD hs4⊢
 clear hkv
 dsimp only at HKD hs4⊢
 obtain⟨SN,hSN⟩: ∃s,(if(!tn.isSome|| !td.isSome) || !methodNB (tn.getD ⟨#[]⟩).data.toList|| !is||mflags c.acc x.acc (tn.getD ⟨#[]⟩).data.toList||mthRet (tn.getD ⟨#[]⟩).data.toList ret.data.toList (td.getD ⟨#[]⟩).data.toList then seen else((tn.getD ⟨#[]⟩).data.toList,(td.getD ⟨#[]⟩).data.toList)::seen)=s:=⟨_,rfl⟩
 rw [hSN]
 have HSN:=Lib.hid hSN
 clear hSN
 obtain⟨R,hR⟩: ∃r,mthRes (!tn.isSome|| !td.isSome) (!methodNB (tn.getD ⟨#[]⟩).data.toList) (!is) (mflags c.acc x.acc (tn.getD ⟨#[]⟩).data.toList) (mthRet (tn.getD ⟨#[]⟩).data.toList ret.data.toList (td.getD ⟨#[]⟩).data.toList) (decide (((tn.getD ⟨#[]⟩).data.toList,(td.getD ⟨#[]⟩).data.toList)∈seen)) (codeBad x args.size) (trapsNo c.pool x)=r:=⟨_,rfl⟩
 rw [hR]
 have HR:=Lib.hid hR
 clear hR
 have hz0:(((w.alloc (.cells #[.int .i64 c.minor, .int .i64 c.major, .slice A c.pool.length cap, .int .i64 c.acc, .int .i64 c.this, .int .i64 c.sup,ifs,flds,mths] 94)).alloc (.cells #[.int .i64 x.acc, .int .i64 x.name, .int .i64 x.desc, .bool x.has, .int .i64 x.stack, .int .i64 x.locals,cv,tv] 37)).alloc (.cells #[.map (some b)] 95)).heap.size=w.heap.size+3:=by simp
 go_enter Tryz.func39,Tryz.ntmps39
 go_wp2_with (first
  | (refine wpList_load_row rfl _ _ rfl w.heap.size rfl _ _ _ _ X0.out Tryz.underlying94 rfl (by kernel_rfl) ?_)
  | (go_at_call 76;refine stop_here ?_))
 generalize (((w.alloc (.cells #[.int .i64 c.minor, .int .i64 c.major, .slice A c.pool.length cap, .int .i64 c.acc, .int .i64 c.this, .int .i64 c.sup,ifs,flds,mths] 94)).alloc (.cells #[.int .i64 x.acc, .int .i64 x.name, .int .i64 x.desc, .bool x.has, .int .i64 x.stack, .int .i64 x.locals,cv,tv] 37)).alloc (.cells #[.map (some b)] 95))=w0 at*
 refine go_on ?_
 refine(text_book c A cap _ flds mths x.name ok _ H0.out HN1.out).mono ?_
 rw [HTN.out]
 rintro e w1 ⟨rfl,hb⟩
 simp only [optV]
 have hz1:=hb.size
 have B1:=Lib.hid (BW0.out.trans (hb.mono (by omega)))
 have X1:=Lib.hid (X0.out.below hb X0.out.lt)
 have F1:=Lib.hid (F0.out.below hb F0.out.lt)
 have C51:=Lib.hid (CapB.below C5.out hb)
 have H1:=Lib.hid (H0.out.below hb)
 have S1:=Lib.hid (S0.out.below hb)
 clear hb X0 F0 C5 H0 S0 BW0
 have f2:=F1.out.cell 2 rfl
 obtain⟨x1,x2,x3,x4,x5,x6,x7,x8,x9,x10,x11,x12⟩:=far w.heap.size w1.heap.size (by omega)
 obtain⟨y1,y2,y3,y4,y5,y6,y7,y8,y9,y10,y11,y12⟩:=far (w.heap.size+1) w1.heap.size (by omega)
 have BW1:=Lib.hid (((Below.refl w1.heap.size w1).alloc (Nat.le_refl _) (.cells #[.string (tn.getD ⟨#[]⟩)] 9)).alloc (by simp<;>omega) (.cells #[.bool tn.isSome] 4))
 have C7:=Lib.hid ((bx_new_at w1 [.string (tn.getD ⟨#[]⟩)] 9 _ rfl).below ((Below.refl _ _).alloc (Nat.le_refl _) (.cells #[.bool tn.isSome] 4)) (by simp<;>omega))
 have C8:=Lib.hid (bx_new_at (w1.alloc (.cells #[.string (tn.getD ⟨#[]⟩)] 9)) [.bool tn.isSome] 4 (w1.heap.size+1) (by simp))
 have XX1:=Lib.hid (X1.out.below BW1.out X1.out.lt)
 go_wp2_with (first
  | (refine wpList_load_row rfl _ _ rfl w.heap.size rfl _ _ _ _ XX1.out Tryz.underlying94 rfl (by kernel_rfl) ?_)
  | (go_at_call 76;refine stop_here ?_))
 refine go_on ?_
 clear x1 x2 x3 x4 x5 x6 x7 x8 x9 x10 x11 x12 y1 y2 y3 y4 y5 y6 y7 y8 y9 y10 y11 y12 f2 XX1
 refine(text_book c A cap _ flds mths x.desc ok _ (H1.out.below BW1.out) HN2.out).mono ?_
 rw [HTD.out]
 rintro e w2 ⟨rfl,hb⟩
 simp only [optV]
 have hz2:=hb.size
 simp only [World.size_alloc] at hz2
 have hb':=BW1.out.trans (hb.mono (by simp<;>omega))
 have B2:=Lib.hid (B1.out.trans (hb'.mono (by omega)))
 have X2:=Lib.hid (X1.out.below hb' X1.out.lt)
 have F2:=Lib.hid (F1.out.below hb' F1.out.lt)
 have C52:=Lib.hid (CapB.below C51.out hb')
 have H2:=Lib.hid (H1.out.below hb')
 have S2:=Lib.hid (S1.out.below hb')
 have C72:=Lib.hid (C7.out.below hb (by simp<;>omega))
 have C82:=Lib.hid (C8.out.below hb (by simp<;>omega))
 clear hb hb' X1 F1 C51 H1 S1 BW1 B1 C7 C8 HTD HTN
 have BW2:=Lib.hid (((Below.refl w2.heap.size w2).alloc (Nat.le_refl _) (.cells #[.string (td.getD ⟨#[]⟩)] 9)).alloc (by simp<;>omega) (.cells #[.bool td.isSome] 4))
 have C9:=Lib.hid ((bx_new_at w2 [.string (td.getD ⟨#[]⟩)] 9 _ rfl).below ((Below.refl _ _).alloc (Nat.le_refl _) (.cells #[.bool td.isSome] 4)) (by simp<;>omega))
 have C10:=Lib.hid (bx_new_at (w2.alloc (.cells #[.string (td.getD ⟨#[]⟩)] 9)) [.bool td.isSome] 4 (w2.heap.size+1) (by simp))
 go_wp2_with (go_at_call 99;refine stop_here ?_)
 refine go_on ?_
 refine(HKD.out _).mono ?_
 rintro e w3 ⟨rfl,hb⟩
 have hz3:=hb.size
 simp only [World.size_alloc] at hz3
 have hb':=BW2.out.trans (hb.mono (by simp<;>omega))
 have B3:=Lib.hid (B2.out.trans (hb'.mono (by omega)))
 have X3:=Lib.hid (X2.out.below hb' X2.out.lt)
 have F3:=Lib.hid (F2.out.below hb' F2.out.lt)
 have C53:=Lib.hid (CapB.below C52.out hb')
 have H3:=Lib.hid (H2.out.below hb')
 have S3:=Lib.hid (S2.out.below hb')
 have C73:=Lib.hid (C72.out.below hb' C72.out.lt)
 have C83:=Lib.hid (C82.out.below hb' C82.out.lt)
 have C93:=Lib.hid (C9.out.below hb (by simp<;>omega))
 have C103:=Lib.hid (C10.out.below hb (by simp<;>omega))
 clear hb hb' X2 F2 C52 H2 S2 BW2 B2 C9 C10 C72 C82 HKD
 obtain⟨y1,y2,y3,y4,y5,y6,y7,y8,y9,y10,y11,y12⟩:=far (w.heap.size+1) w3.heap.size (by omega)
 have BW3a:=Lib.hid ((((Below.refl w3.heap.size w3).alloc (Nat.le_refl _) (.cells #[.string args] 9)).alloc (by simp<;>omega) (.cells #[.string ret] 9)).alloc (by simp<;>omega) (.cells #[.bool is] 4))
 have BW3:=Lib.hid (BW3a.out.alloc (by simp<;>omega) (.cells (mthRules w.heap.size (w.heap.size+2) w1.heap.size (w1.heap.size+1) w2.heap.size (w2.heap.size+1) w3.heap.size (w3.heap.size+1) (w3.heap.size+1+1)).toArray 164))
 have FF3:=Lib.hid (F3.out.below BW3a.out F3.out.lt)
 have C11:=Lib.hid ((bx_new_at w3 [.string args] 9 _ rfl).below ((((Below.refl _ _).alloc (Nat.le_refl _) (.cells #[.string ret] 9)).alloc (by simp<;>omega) (.cells #[.bool is] 4)).alloc (by simp<;>omega) (.cells (mthRules w.heap.size (w.heap.size+2) w1.heap.size (w1.heap.size+1) w2.heap.size (w2.heap.size+1) w3.heap.size (w3.heap.size+1) (w3.heap.size+1+1)).toArray 164)) (by simp<;>omega))
 have C12:=Lib.hid ((bx_new_at (w3.alloc (.cells #[.string args] 9)) [.string ret] 9 (w3.heap.size+1) (by simp)).below (((Below.refl _ _).alloc (Nat.le_refl _) (.cells #[.bool is] 4)).alloc (by simp<;>omega) (.cells (mthRules w.heap.size (w.heap.size+2) w1.heap.size (w1.heap.size+1) w2.heap.size (w2.heap.size+1) w3.heap.size (w3.heap.size+1) (w3.heap.size+1+1)).toArray 164)) (by simp<;>omega))
 have C13:=Lib.hid ((bx_new_at ((w3.alloc (.cells #[.string args] 9)).alloc (.cells #[.string ret] 9)) [.bool is] 4 (w3.heap.size+1+1) (by simp)).below ((Below.refl _ _).alloc (Nat.le_refl _) (.cells (mthRules w.heap.size (w.heap.size+2) w1.heap.size (w1.heap.size+1) w2.heap.size (w2.heap.size+1) w3.heap.size (w3.heap.size+1) (w3.heap.size+1+1)).toArray 164)) (by simp<;>omega))
 have G3:=Lib.hid (bx_new_at (((w3.alloc (.cells #[.string args] 9)).alloc (.cells #[.string ret] 9)).alloc (.cells #[.bool is] 4)) (mthRules w.heap.size (w.heap.size+2) w1.heap.size (w1.heap.size+1) w2.heap.size (w2.heap.size+1) w3.heap.size (w3.heap.size+1) (w3.heap.size+1+1)) 164 (w3.heap.size+1+1+1) (by simp))
 have hz4:((((w3.alloc (.cells #[.string args] 9)).alloc (.cells #[.string ret] 9)).alloc (.cells #[.bool is] 4)).alloc (.cells (mthRules w.heap.size (w.heap.size+2) w1.heap.size (w1.heap.size+1) w2.heap.size (w2.heap.size+1) w3.heap.size (w3.heap.size+1) (w3.heap.size+1+1)).toArray 164)).heap.size=w3.heap.size+4:=by simp
 go_wp2_with (first
  | (refine wpList_load_row rfl _ _ rfl (w.heap.size+1) rfl _ _ _ _ FF3.out Tryz.underlying37 rfl (by kernel_rfl) ?_)
  | (go_at_call 100;refine stop_here ?_))
 refine go_on ?_
 clear y1 y2 y3 y4 y5 y6 y7 y8 y9 y10 y11 y12 FF3
 have HF:=MthW.mk (c:=c) (A:=A) (cap:=cap) (ifs:=ifs) (flds:=flds) (mths:=mths) (ok:=ok) (ok2:=ok2) (x:=x) (seen:=seen) G3.out (X3.out.below BW3.out X3.out.lt)
  (Bx.below F3.out (w':=_) BW3.out F3.out.lt) (CapB.below C53.out BW3.out) ((C73.out.below BW3.out C73.out.lt).cell 0 rfl) ((C83.out.below BW3.out C83.out.lt).cell 0 rfl) ((C93.out.below BW3.out C93.out.lt).cell 0 rfl) ((C103.out.below BW3.out C103.out.lt).cell 0 rfl) (C11.out.cell 0 rfl) (C12.out.cell 0 rfl) (C13.out.cell 0 rfl) (H3.out.below BW3.out)
  ⟨HM.out.hcode.keep (Kept.of_below (B3.out.trans (BW3.out.mono (by omega)))),HM.out.htraps.keep (Kept.of_below (B3.out.trans (BW3.out.mono (by omega))))⟩ (S3.out.below BW3.out)
 have HF2:=HF.below ((Below.refl _ _).alloc (Nat.le_refl _) (.cells #[.int .i64 x.acc, .int .i64 x.name, .int .i64 x.desc, .bool x.has, .int .i64 x.stack, .int .i64 x.locals,cv,tv] 37))
 have HF3:=MthW.mk HF2.gg HF2.kk (bx_new _ [.int .i64 x.acc, .int .i64 x.name, .int .i64 x.desc, .bool x.has, .int .i64 x.stack, .int .i64 x.locals,cv,tv] 37) HF2.c5 HF2.c7 HF2.c8 HF2.c9 HF2.c10 HF2.c11 HF2.c12 HF2.c13 HF2.bo HF2.ma HF2.sm
 refine(first_method c A cap ifs flds mths ok ok2 _ w.heap.size (w.heap.size+2) w1.heap.size (w1.heap.size+1) w2.heap.size (w2.heap.size+1) w3.heap.size (w3.heap.size+1) (w3.heap.size+1+1) b _ _ args ret tn.isSome td.isSome is x cv tv hcv htv seen _ HF3 (by omega) hs2 hs3 (by omega) hlen HN3.out).mono ?_
 rintro e w4 ⟨he,hb,hsm⟩
 have he:e= .returned (.int .i64 R):=he.trans (by rw [←HR.out])
 subst he
 have B4:=Lib.hid ((But.of_below (S:= [b]) (B3.out.trans (BW3.out.mono (by omega)))).trans (hb.mono (by omega) (fun _ _ h=>h)))
 have S4:=Lib.hid (show SeenM w4 b SN by rw [←HSN.out];exact hsm)
 clear hb hsm HF HF2 HF3
 go_wp2_with fail
 go_ret
 exact⟨rfl,B4.out,S4.out⟩
end Go.Proofs.YtlcidkiplidamaaGreatDoor
