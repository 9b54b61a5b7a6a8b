/- Part 21 of what the laws rest on: walks. Conditions: those that each theorem names. -/
import Derived.Test.YtdbniocnjhfhdaaGreatDoorB20
set_option linter.unusedSimpArgs false
set_option linter.unusedVariables false
set_option maxRecDepth 100000
set_option maxHeartbeats 4000000
namespace Go.Proofs.YtdbniocnjhfhdaaGreatDoor
open Go Go.RowKit Lib
theorem lqK (x:aqr) (cv tv:Value) (hcv:cv.oneCell'=true) (htv:tv.oneCell'=true) (bk p1:Nat) (nm:ByteArray) (c:aqc) (pool ifs flds mths:Value) (w:World) (h1:Bx w bk [.int .i64 c.minor, .int .i64 c.major,pool, .int .i64 c.acc, .int .i64 c.this, .int .i64 c.sup,ifs,flds,mths] 179) (h2:cqB w p1 (.string nm)) (l2:p1<w.heap.size):
  Calls Tryz.prog 165 #[bqL x cv tv, .pointer (some ⟨bk,0,none⟩), .pointer (some ⟨p1,0,none⟩)] w fun e w'=>e= .returned (.bool (cqE c.acc x.acc nm.data.toList))∧Below w.heap.size w w':=by
 have HW:=Hq ((Below.refl w.heap.size w).alloc Nr (.cells #[.int .i64 x.acc, .int .i64 x.name, .int .i64 x.desc, .bool x.has, .int .i64 x.stack, .int .i64 x.locals,cv,tv] 91))
 have HX:=Hq (h1.below HW.out h1.lt)
 have M0:=Hq (aql w [.int .i64 x.acc, .int .i64 x.name, .int .i64 x.desc, .bool x.has, .int .i64 x.stack, .int .i64 x.locals,cv,tv] 91)
 have k2:=h2.alloc l2 (.cells #[.int .i64 x.acc, .int .i64 x.name, .int .i64 x.desc, .bool x.has, .int .i64 x.stack, .int .i64 x.locals,cv,tv] 91)
 have C:=Hq (fun W=>kqk x cv tv c pool ifs flds mths nm W)
 clear h1 h2
 rw [aqe] at C
 unfold bqL at C⊢
 go_enter Tryz.func165,Tryz.ntmps165
 go_wp2_with (first
  | (refine wpList_load_row rfl _ _ rfl bk rfl _ _ _ _ HX.out Tryz.underlying179 rfl Kq9 ?_)
  | (refine wpList_load_row rfl _ _ rfl w.heap.size rfl _ _ _ _ M0.out Tryz.underlying91 rfl Kq9 ?_)
  | (go_at_call 166;refine(C.out _).mono ?_;rintro e w1 ⟨rfl,hb⟩;have HB:=Hq (HW.out.trans (hb.mono Sp));clear hb))
 go_ret
 exact⟨rfl,HB.out⟩
theorem lqL (x:aqr) (cv tv:Value) (ok:Nat→Prop) (p1:Nat) (args:ByteArray) (w:World) (h:aqO w ok x cv tv) (h2:cqB w p1 (.string args)) (l2:p1<w.heap.size) (hs:args.size≤65536):
  Calls Tryz.prog 169 #[bqL x cv tv, .pointer (some ⟨p1,0,none⟩)] w fun e w'=>e= .returned (.bool (cq7 x args.size))∧Below w.heap.size w w':=by
 have HW:=Hq ((Below.refl w.heap.size w).alloc Nr (.cells #[.int .i64 x.acc, .int .i64 x.name, .int .i64 x.desc, .bool x.has, .int .i64 x.stack, .int .i64 x.locals,cv,tv] 91))
 have M0:=Hq (aql w [.int .i64 x.acc, .int .i64 x.name, .int .i64 x.desc, .bool x.has, .int .i64 x.stack, .int .i64 x.locals,cv,tv] 91)
 have k2:=h2.alloc l2 (.cells #[.int .i64 x.acc, .int .i64 x.name, .int .i64 x.desc, .bool x.has, .int .i64 x.stack, .int .i64 x.locals,cv,tv] 91)
 have hA:=h.hcode
 have hB:=h.htraps
 have C:=Hq (nqc x cv tv ok args (w.alloc (.cells #[.int .i64 x.acc, .int .i64 x.name, .int .i64 x.desc, .bool x.has, .int .i64 x.stack, .int .i64 x.locals,cv,tv] 91)) ⟨h.hcode.keep (aqC.of_below HW.out),h.htraps.keep (aqC.of_below HW.out)⟩ hs)
 obtain⟨Ac,kc,rfl,_,zc⟩:=aqd h.hcode
 obtain⟨At,kt,rfl,_,zt⟩:=aqd h.htraps
 clear h h2 hA hB
 unfold bqL at C⊢
 go_enter Tryz.func169,Tryz.ntmps169
 go_wp2_with (first
  | (refine wpList_load_row rfl _ _ rfl w.heap.size rfl _ _ _ _ M0.out Tryz.underlying91 rfl Kq9 ?_)
  | (go_at_call 170;refine C.out.mono ?_;rintro e w1 ⟨rfl,hb⟩;have HB:=Hq (HW.out.trans (hb.mono Sp));clear hb))
 go_ret
 exact⟨rfl,HB.out⟩
def bqv (pool:List Ko) (t:bqK):Bool:=((t.kind:Int) !=0)&& !(aqt pool t.kind 7).isSome
def dq3 (pool:List Ko) (x:aqr):Bool:=x.has&&x.traps.any (bqv pool)
theorem lqM (x:aqr) (cv tv:Value) (bk:Nat) (c:aqc) (A:Option Addr) (cap:Nat) (ifs flds mths:Value) (ok ok2:Nat→Prop) (w:World) (h:aqQ w ok c A cap ifs flds mths) (h1:Bx w bk [.int .i64 c.minor, .int .i64 c.major, .slice A c.pool.length cap, .int .i64 c.acc, .int .i64 c.this, .int .i64 c.sup,ifs,flds,mths] 179) (hM:aqO w ok2 x cv tv) (hf: ∀t∈x.traps,bqA t.kind):
  Calls Tryz.prog 171 #[bqL x cv tv, .pointer (some ⟨bk,0,none⟩)] w fun e w'=>e= .returned (.bool (dq3 c.pool x))∧Below w.heap.size w w':=by
 obtain⟨Ac,kc,rfl,_,zc⟩:=aqd hM.hcode
 obtain⟨At,kt,rfl,_,zt⟩:=aqd hM.htraps
 have HW:=Hq ((Below.refl w.heap.size w).alloc Nr (.cells #[.int .i64 x.acc, .int .i64 x.name, .int .i64 x.desc, .bool x.has, .int .i64 x.stack, .int .i64 x.locals, .slice Ac x.code.length kc, .slice At x.traps.length kt] 91))
 have HX:=Hq (h1.below HW.out h1.lt)
 have M0:=Hq (aql w [.int .i64 x.acc, .int .i64 x.name, .int .i64 x.desc, .bool x.has, .int .i64 x.stack, .int .i64 x.locals, .slice Ac x.code.length kc, .slice At x.traps.length kt] 91)
 have HT:=Hq (hM.htraps.keep (aqC.of_below HW.out))
 have H0:=Hq (h.below HW.out)
 have HF:=Hq hf
 have hz0:(w.alloc (.cells #[.int .i64 x.acc, .int .i64 x.name, .int .i64 x.desc, .bool x.has, .int .i64 x.stack, .int .i64 x.locals, .slice Ac x.code.length kc, .slice At x.traps.length kt] 91)).heap.size=w.heap.size+1:=by simp
 have hbk:=h1.lt
 clear h h1 hM hf
 obtain⟨R,hR⟩: ∃R,dq3 c.pool x=R:=⟨_,rfl⟩
 rw [hR]
 have HR:=Hq hR
 clear hR
 unfold bqL
 go_enter Tryz.func171,Tryz.ntmps171
 go_wp2_with fail
 generalize w.alloc (.cells #[.int .i64 x.acc, .int .i64 x.name, .int .i64 x.desc, .bool x.has, .int .i64 x.stack, .int .i64 x.locals, .slice Ac x.code.length kc, .slice At x.traps.length kt] 91)=w0 at*
 go_loopw [11] (fun i wr=> ∃k:Nat,k≤x.traps.length∧i= .int .i64 k∧w.heap.size+1≤wr.heap.size∧Hid (Below w0.heap.size w0 wr)∧Hid (R=(x.has&&(x.traps.drop k).any (bqv c.pool)))) (fun i _=>x.traps.length - (RowKit.intOf i).toNat)
 case atStart=>exact⟨0,by omega,rfl,by omega,Hq Rf9,Hq (by rw [←HR.out,List.drop_zero];rfl)⟩
 case round=>
  obtain⟨wr1,hwr⟩: ∃W,W=wr:=⟨_,rfl⟩
  subst hwr
  obtain⟨k,hk,rfl,hzr,HBr,HEr⟩:=hrel
  by_cases hlt:k<x.traps.length
  ·obtain⟨t,ht⟩: ∃t,x.traps[k]?=some t:=⟨_,List.getElem?_eq_getElem hlt⟩
   obtain⟨b,off,hAt,hbl,p0,p1,p2,p3⟩:=cqJ (HT.out.keep (aqC.of_below HBr.out)) k t ht
   subst hAt
   have HFT:=Hq (HF.out t (List.mem_of_getElem? ht))
   obtain⟨has,hhas⟩: ∃v,x.has=v:=⟨_,rfl⟩
   have HDR:=Hq (show R=(has&&(bqv c.pool t|| (x.traps.drop (k+1)).any (bqv c.pool))) by
    rw [HEr.out,hhas,List.drop_eq_getElem_cons hlt,List.any_cons]
    congr 2
    rw [List.getElem?_eq_getElem hlt] at ht
    injection ht with ht
    rw [ht])
   have HDS:=Hq (show(x.has&&(x.traps.drop (k+1)).any (bqv c.pool))=(has&&(x.traps.drop (k+1)).any (bqv c.pool)) by rw [hhas])
   have Mr:=M0.out.below HBr.out Om
   rw [hhas] at Mr
   have MR:=Hq Mr
   have HXr:=Hq ((HX.out.below HBr.out Om).below ((Below.refl wr1.heap.size wr1).alloc Nr (.cells #[.int .i64 t.lo, .int .i64 t.hi, .int .i64 t.tgt, .int .i64 t.kind] 157)) Om)
   have H1:=Hq ((H0.out.below HBr.out).below ((Below.refl wr1.heap.size wr1).alloc Nr (.cells #[.int .i64 t.lo, .int .i64 t.hi, .int .i64 t.tgt, .int .i64 t.kind] 157)))
   have T0:=Hq (aql wr1 [.int .i64 t.lo, .int .i64 t.hi, .int .i64 t.tgt, .int .i64 t.kind] 157)
   have hzt:(wr1.alloc (.cells #[.int .i64 t.lo, .int .i64 t.hi, .int .i64 t.tgt, .int .i64 t.kind] 157)).heap.size=wr1.heap.size+1:=by simp
   obtain⟨x1,x2,x3,x4,x5,x6,x7,x8,x9,x10,x11,x12⟩:=far b wr1.heap.size hbl
   have HB1:=Hq (HBr.out.alloc HBr.out.size (.cells #[.int .i64 t.lo, .int .i64 t.hi, .int .i64 t.tgt, .int .i64 t.kind] 157))
   clear ht HEr Mr hhas HR
   go_wp2_with (first
    | (refine wpList_load_row rfl _ _ rfl bk rfl _ _ _ _ HXr.out Tryz.underlying179 rfl Kq9 ?_)
    | (go_at_call 98;refine aqa ?_))
   refine aqb ?_
   clear p0 p1 p2 p3
   refine(bq7 c A cap ifs flds mths t.kind 7 ok _ H1.out.hp H1.out.h1 H1.out.h2 H1.out.h3 HFT.out.2 HFT.out.1).mono ?_
   obtain⟨b1,hb1⟩: ∃v,((t.kind:Int) !=0)=v:=⟨_,rfl⟩
   have HB1F:=Hq hb1
   rcases hk7:aqt c.pool t.kind 7 with _|ko
   ·have HQ:=Hq (show R=(has&&((b1&&true) || (x.traps.drop (k+1)).any (bqv c.pool))) by rw [HDR.out];unfold bqv;rw [hk7,HB1F.out];rfl)
    clear HDR hk7 HB1F
    rintro e w1 ⟨rfl,hb⟩
    simp only [bqc,koV,Option.getD_none,Option.getD_some,Option.isSome_none,Option.isSome_some,aqY]
    have hz1:=hb.size
    have hba:=hb.trans ((Below.refl w1.heap.size w1).alloc Nr (.cells #[.int .i64 0, .string ⟨#[]⟩, .int .i64 0, .int .i64 0, .int .i64 0] 78) |>.mono hb.size)
    have HB3:=Hq (HB1.out.trans (hba.mono (Nat.le_trans HBr.out.size Om)))
    have m3:=(MR.out.below (((Below.refl wr1.heap.size wr1).alloc Nr (.cells #[.int .i64 t.lo, .int .i64 t.hi, .int .i64 t.tgt, .int .i64 t.kind] 157)).trans (hba.mono Om)) Om).cell 3 rfl
    have t3:=(T0.out.below hba Om).cell 3 rfl
    have hz3:wr1.heap.size+2≤(w1.alloc (.cells #[.int .i64 0, .string ⟨#[]⟩, .int .i64 0, .int .i64 0, .int .i64 0] 78)).heap.size:=by simp;omega
    clear hba
    clear hb
    cases has<;>cases b1
    ·have HY:=Hq (show R=(x.has&&(x.traps.drop (k+1)).any (bqv c.pool)) by rw [HQ.out,HDS.out];rfl)
     clear HQ HDS
     go_wp2_with fail
     go_roundw
     case rel=>exact⟨k+1,by omega,by go_num,by omega,HB3,HY⟩
     case measure=>simp [RowKit.intOf];omega
    ·have HY:=Hq (show R=(x.has&&(x.traps.drop (k+1)).any (bqv c.pool)) by rw [HQ.out,HDS.out];rfl)
     clear HQ HDS
     go_wp2_with fail
     go_roundw
     case rel=>exact⟨k+1,by omega,by go_num,by omega,HB3,HY⟩
     case measure=>simp [RowKit.intOf];omega
    ·have HY:=Hq (show R=(x.has&&(x.traps.drop (k+1)).any (bqv c.pool)) by rw [HQ.out,HDS.out];rfl)
     clear HQ HDS
     go_wp2_with fail
     go_roundw
     case rel=>exact⟨k+1,by omega,by go_num,by omega,HB3,HY⟩
     case measure=>simp [RowKit.intOf];omega
    have HY:=Hq (show R=true by rw [HQ.out];rfl)
    clear HQ HDS
    go_wp2_with fail
    go_ret
    exact⟨by rw [HY.out];rfl,HW.out.trans (HB3.out.mono Om)⟩
   have HQ:=Hq (show R=(has&&((b1&&false) || (x.traps.drop (k+1)).any (bqv c.pool))) by rw [HDR.out];unfold bqv;rw [hk7,HB1F.out];rfl)
   clear HDR hk7 HB1F
   rintro e w1 ⟨rfl,hb⟩
   simp only [bqc,koV,Option.getD_none,Option.getD_some,Option.isSome_none,Option.isSome_some,aqY]
   have hz1:=hb.size
   have hba:=hb.trans ((Below.refl w1.heap.size w1).alloc Nr (.cells #[.int .i64 ko.tag, .string ko.text, .int .i64 ko.num, .int .i64 ko.a, .int .i64 ko.b] 78) |>.mono hb.size)
   have HB3:=Hq (HB1.out.trans (hba.mono (Nat.le_trans HBr.out.size Om)))
   have m3:=(MR.out.below (((Below.refl wr1.heap.size wr1).alloc Nr (.cells #[.int .i64 t.lo, .int .i64 t.hi, .int .i64 t.tgt, .int .i64 t.kind] 157)).trans (hba.mono Om)) Om).cell 3 rfl
   have t3:=(T0.out.below hba Om).cell 3 rfl
   have hz3:wr1.heap.size+2≤(w1.alloc (.cells #[.int .i64 ko.tag, .string ko.text, .int .i64 ko.num, .int .i64 ko.a, .int .i64 ko.b] 78)).heap.size:=by simp;omega
   clear hba
   clear hb
   cases has<;>cases b1
   ·have HY:=Hq (show R=(x.has&&(x.traps.drop (k+1)).any (bqv c.pool)) by rw [HQ.out,HDS.out];rfl)
    clear HQ HDS
    go_wp2_with fail
    go_roundw
    case rel=>exact⟨k+1,by omega,by go_num,by omega,HB3,HY⟩
    case measure=>simp [RowKit.intOf];omega
   ·have HY:=Hq (show R=(x.has&&(x.traps.drop (k+1)).any (bqv c.pool)) by rw [HQ.out,HDS.out];rfl)
    clear HQ HDS
    go_wp2_with fail
    go_roundw
    case rel=>exact⟨k+1,by omega,by go_num,by omega,HB3,HY⟩
    case measure=>simp [RowKit.intOf];omega
   ·have HY:=Hq (show R=(x.has&&(x.traps.drop (k+1)).any (bqv c.pool)) by rw [HQ.out,HDS.out];rfl)
    clear HQ HDS
    go_wp2_with fail
    go_roundw
    case rel=>exact⟨k+1,by omega,by go_num,by omega,HB3,HY⟩
    case measure=>simp [RowKit.intOf];omega
   have HY:=Hq (show R=(x.has&&(x.traps.drop (k+1)).any (bqv c.pool)) by rw [HQ.out,HDS.out];rfl)
   clear HQ HDS
   go_wp2_with fail
   go_roundw
   case rel=>exact⟨k+1,by omega,by go_num,by omega,HB3,HY⟩
   case measure=>simp [RowKit.intOf];omega
  have HY:=Hq (show R=false by rw [HEr.out,List.drop_of_length_le Om];simp)
  go_wp2_with fail
  go_ret
  exact⟨by rw [HY.out];rfl,HW.out.trans (HBr.out.mono Om)⟩
def dqD (bk p5 p7 p8 p9 p10 p11 p12 p13:Nat):List Value:= [.int .i64 20, .func (.func 162) #[] #[.pointer (some ⟨p8,0,none⟩), .pointer (some ⟨p10,0,none⟩)], .int .i64 21, .func (.func 163) #[] #[.pointer (some ⟨p7,0,none⟩)], .int .i64 22, .func (.func 164) #[] #[.pointer (some ⟨p13,0,none⟩)], .int .i64 23, .func (.func 165) #[] #[.pointer (some ⟨bk,0,none⟩), .pointer (some ⟨p7,0,none⟩)], .int .i64 22, .func (.func 167) #[] #[.pointer (some ⟨p7,0,none⟩), .pointer (some ⟨p12,0,none⟩), .pointer (some ⟨p9,0,none⟩)], .int .i64 24, .func (.func 168) #[] #[.pointer (some ⟨p5,0,none⟩), .pointer (some ⟨p7,0,none⟩), .pointer (some ⟨p9,0,none⟩)], .int .i64 25, .func (.func 169) #[] #[.pointer (some ⟨p11,0,none⟩)], .int .i64 20, .func (.func 171) #[] #[.pointer (some ⟨bk,0,none⟩)]]
def hqO (b1 b2 b3 b4 b5 b6 b7 b8:Bool):Int:=if b1 then 20 else if b2 then 21 else if b3 then 22 else if b4 then 23 else if b5 then 22 else if b6 then 24 else if b7 then 25 else if b8 then 20 else 0
theorem aqO.seen {w w':World} {b:Nat} {seen:List NmD} {ok:Nat→Prop} {x:aqr} {cv tv:Value} (h:aqO w ok x cv tv) (hm:bqU w b seen) (hb:But w.heap.size [b] w w'):aqO w' ok x cv tv:=⟨h.hcode.seen hm hb,h.htraps.seen hm hb⟩
structure nqd (c:aqc) (A:Option Addr) (cap:Nat) (ifs flds mths:Value) (ok ok2:Nat→Prop) (g bk p5 p7 p8 p9 p10 p11 p12 p13 b:Nat) (nm d args ret:ByteArray) (one two is:Bool) (x:aqr) (cv tv:Value) (seen:List NmD) (fb:Nat) (W:World):Prop where
 gg:Bx W g (dqD bk p5 p7 p8 p9 p10 p11 p12 p13) 225
 kk:Bx W bk [.int .i64 c.minor, .int .i64 c.major, .slice A c.pool.length cap, .int .i64 c.acc, .int .i64 c.this, .int .i64 c.sup,ifs,flds,mths] 179
 xx:Bx W fb [.int .i64 x.acc, .int .i64 x.name, .int .i64 x.desc, .bool x.has, .int .i64 x.stack, .int .i64 x.locals,cv,tv] 91
 c5:cqB W p5 (.map (some b))
 c7:cqB W p7 (.string nm)
 c8:cqB W p8 (.bool one)
 c9:cqB W p9 (.string d)
 c10:cqB W p10 (.bool two)
 c11:cqB W p11 (.string args)
 c12:cqB W p12 (.string ret)
 c13:cqB W p13 (.bool is)
 bo:aqQ W ok c A cap ifs flds mths
 ma:aqO W ok2 x cv tv
 sm:bqU W b seen
theorem nqd.below {c:aqc} {A:Option Addr} {cap:Nat} {ifs flds mths:Value} {ok ok2:Nat→Prop} {g bk p5 p7 p8 p9 p10 p11 p12 p13 b:Nat} {nm d args ret:ByteArray} {one two is:Bool} {x:aqr} {cv tv:Value} {seen:List NmD} {fb:Nat} {W W':World} (h:nqd c A cap ifs flds mths ok ok2 g bk p5 p7 p8 p9 p10 p11 p12 p13 b nm d args ret one two is x cv tv seen fb W) (hb:Below W.heap.size W W'):nqd c A cap ifs flds mths ok ok2 g bk p5 p7 p8 p9 p10 p11 p12 p13 b nm d args ret one two is x cv tv seen fb W':=
 ⟨h.gg.below hb h.gg.lt,h.kk.below hb h.kk.lt,h.xx.below hb h.xx.lt,h.c5.below hb,h.c7.below hb,h.c8.below hb,h.c9.below hb,h.c10.below hb,h.c11.below hb,h.c12.below hb,h.c13.below hb,h.bo.below hb,⟨h.ma.hcode.keep (aqC.of_below hb),h.ma.htraps.keep (aqC.of_below hb)⟩,h.sm.below hb⟩
theorem nqd.seen {c:aqc} {A:Option Addr} {cap:Nat} {ifs flds mths:Value} {ok ok2:Nat→Prop} {g bk p5 p7 p8 p9 p10 p11 p12 p13 b:Nat} {nm d args ret:ByteArray} {one two is:Bool} {x:aqr} {cv tv:Value} {seen seen':List NmD} {fb:Nat} {W W':World} (h:nqd c A cap ifs flds mths ok ok2 g bk p5 p7 p8 p9 p10 p11 p12 p13 b nm d args ret one two is x cv tv seen fb W) (hb:But W.heap.size [b] W W') (hs:bqU W' b seen'):nqd c A cap ifs flds mths ok ok2 g bk p5 p7 p8 p9 p10 p11 p12 p13 b nm d args ret one two is x cv tv seen' fb W':=
 ⟨h.gg.but hb (aqk (h.sm.apart (h.gg.cell 0 rfl))),h.kk.but hb (aqk (h.sm.apart (h.kk.cell 0 rfl))),h.xx.but hb (aqk (h.sm.apart (h.xx.cell 0 rfl))),h.c5.seen h.sm hb,h.c7.seen h.sm hb,h.c8.seen h.sm hb,h.c9.seen h.sm hb,h.c10.seen h.sm hb,h.c11.seen h.sm hb,h.c12.seen h.sm hb,h.c13.seen h.sm hb,⟨h.bo.hp.seen h.sm hb,h.bo.h1,h.bo.h2,h.bo.h3⟩,h.ma.seen h.sm hb,hs⟩
theorem hqP (c:aqc) (A:Option Addr) (cap:Nat) (ifs flds mths:Value) (ok ok2:Nat→Prop) (g bk p5 p7 p8 p9 p10 p11 p12 p13 b:Nat) (nm d args ret:ByteArray) (one two is:Bool) (x:aqr) (cv tv:Value) (hcv:cv.oneCell'=true) (htv:tv.oneCell'=true) (seen:List NmD) (w:World) (hF:nqd c A cap ifs flds mths ok ok2 g bk p5 p7 p8 p9 p10 p11 p12 p13 b nm d args ret one two is x cv tv seen w.heap.size (w.alloc (.cells #[.int .i64 x.acc, .int .i64 x.name, .int .i64 x.desc, .bool x.has, .int .i64 x.stack, .int .i64 x.locals,cv,tv] 91))) (hlb:b<w.heap.size) (hs2:nm.size≤65536) (hs3:d.size≤65536) (hs4:args.size≤65536) (hlen:seen.length≤1048576) (hn: ∀t∈x.traps,bqA t.kind):
  Calls Tryz.prog 161 #[bqL x cv tv, .slice (some ⟨g,0,none⟩) 8 8] w fun e w'=>
   e= .returned (.int .i64 (hqO (!one|| !two) (!aq5 nm.data.toList) (!is) (cqE c.acc x.acc nm.data.toList) (dqJ nm.data.toList ret.data.toList d.data.toList) (decide ((nm.data.toList,d.data.toList)∈seen)) (cq7 x args.size) (dq3 c.pool x)))∧But w.heap.size [b] w w'∧
   bqU w' b (if(!one|| !two) || !aq5 nm.data.toList|| !is||cqE c.acc x.acc nm.data.toList||dqJ nm.data.toList ret.data.toList d.data.toList then seen else(nm.data.toList,d.data.toList)::seen):=by
 have HB0:=Hq (But.of_below (S:= [b]) ((Below.refl w.heap.size w).alloc Nr (.cells #[.int .i64 x.acc, .int .i64 x.name, .int .i64 x.desc, .bool x.has, .int .i64 x.stack, .int .i64 x.locals,cv,tv] 91)))
 have F0:=Hq hF
 have HN:=Hq hn
 have HCV:=Hq hcv
 have HTV:=Hq htv
 obtain⟨v1,e1⟩: ∃v,(!one|| !two)=v:=⟨_,rfl⟩
 obtain⟨v2,e2⟩: ∃v,(!aq5 nm.data.toList)=v:=⟨_,rfl⟩
 obtain⟨v3,e3⟩: ∃v,(!is)=v:=⟨_,rfl⟩
 obtain⟨v4,e4⟩: ∃v,cqE c.acc x.acc nm.data.toList=v:=⟨_,rfl⟩
 obtain⟨v5,e5⟩: ∃v,dqJ nm.data.toList ret.data.toList d.data.toList=v:=⟨_,rfl⟩
 obtain⟨v6,e6⟩: ∃v,decide ((nm.data.toList,d.data.toList)∈seen)=v:=⟨_,rfl⟩
 obtain⟨v7,e7⟩: ∃v,cq7 x args.size=v:=⟨_,rfl⟩
 obtain⟨v8,e8⟩: ∃v,dq3 c.pool x=v:=⟨_,rfl⟩
 rw [e1,e2,e3,e4,e5,e6,e7,e8]
 have E1:=Hq e1
 have E2:=Hq e2
 have E3:=Hq e3
 have E4:=Hq e4
 have E5:=Hq e5
 have E6:=Hq e6
 have E7:=Hq e7
 have E8:=Hq e8
 clear hF hn hcv htv e1 e2 e3 e4 e5 e6 e7 e8
 have hz0:(w.alloc (.cells #[.int .i64 x.acc, .int .i64 x.name, .int .i64 x.desc, .bool x.has, .int .i64 x.stack, .int .i64 x.locals,cv,tv] 91)).heap.size=w.heap.size+1:=by simp
 unfold bqL
 go_enter Tryz.func161,Tryz.ntmps161
 go_wp2_with fail
 refine wp_loop_rounds 9 ?_
 generalize w.alloc (.cells #[.int .i64 x.acc, .int .i64 x.name, .int .i64 x.desc, .bool x.has, .int .i64 x.stack, .int .i64 x.locals,cv,tv] 91)=w0 at*
 clear hz0
 have g0:=F0.out.gg.cell 0 rfl
 have g1:=F0.out.gg.cell 1 rfl
 have hxl:=F0.out.xx.lt
 have G0:=Hq (F0.out.below ((Below.refl w0.heap.size w0).alloc Nr (.cells #[.int .i64 20, .func (.func 162) #[] #[.pointer (some ⟨p8,0,none⟩), .pointer (some ⟨p10,0,none⟩)]] 225)))
 have R0:=Hq (aql w0 [.int .i64 20, .func (.func 162) #[] #[.pointer (some ⟨p8,0,none⟩), .pointer (some ⟨p10,0,none⟩)]] 225)
 have HC0:=Hq (HB0.out.trans ((But.of_below (S:= [b]) ((Below.refl w0.heap.size w0).alloc Nr (.cells #[.int .i64 20, .func (.func 162) #[] #[.pointer (some ⟨p8,0,none⟩), .pointer (some ⟨p10,0,none⟩)]] 225))).mono HB0.out.size (fun _ _ h=>h)))
 have hzr:(w0.alloc (.cells #[.int .i64 20, .func (.func 162) #[] #[.pointer (some ⟨p8,0,none⟩), .pointer (some ⟨p10,0,none⟩)]] 225)).heap.size=w0.heap.size+1:=by simp
 rw [rounds_succ]
 go_wp2_with (first
  | (refine wpList_load_row rfl _ _ rfl w.heap.size rfl _ _ _ _ G0.out.xx Tryz.underlying91 rfl Kq9 ?_)
  | (go_at_call 162;refine aqa ?_))
 refine aqb ?_
 clear g0 g1
 refine(lqF x cv tv p8 p10 one two _ G0.out.c8 G0.out.c10 (aqN G0.out.c8) (aqN G0.out.c10)).mono ?_
 rw [E1.out]
 rintro e w1 ⟨rfl,hb⟩
 have HB1:=Hq (HC0.out.trans ((But.of_below (S:= [b]) hb).mono (by have:=HC0.out.size;omega) (fun _ _ h=>h)))
 have F1:=Hq (G0.out.below hb)
 have r0:=(R0.out.below hb Om).cell 0 rfl
 have hz1:=hb.size
 clear hb
 cases v1 with
 |true=>
  go_wp2_with fail
  go_ret
  exact⟨rfl,HB1.out,F1.out.sm⟩
 |false=>
  go_wp2_with fail
  have g0:=F1.out.gg.cell 2 rfl
  have g1:=F1.out.gg.cell 3 rfl
  have hxl:=F1.out.xx.lt
  have G1:=Hq (F1.out.below ((Below.refl w1.heap.size w1).alloc Nr (.cells #[.int .i64 21, .func (.func 163) #[] #[.pointer (some ⟨p7,0,none⟩)]] 225)))
  have R1:=Hq (aql w1 [.int .i64 21, .func (.func 163) #[] #[.pointer (some ⟨p7,0,none⟩)]] 225)
  have HC1:=Hq (HB1.out.trans ((But.of_below (S:= [b]) ((Below.refl w1.heap.size w1).alloc Nr (.cells #[.int .i64 21, .func (.func 163) #[] #[.pointer (some ⟨p7,0,none⟩)]] 225))).mono HB1.out.size (fun _ _ h=>h)))
  have hzr:(w1.alloc (.cells #[.int .i64 21, .func (.func 163) #[] #[.pointer (some ⟨p7,0,none⟩)]] 225)).heap.size=w1.heap.size+1:=by simp
  rw [rounds_succ]
  go_wp2_with (first
   | (refine wpList_load_row rfl _ _ rfl w.heap.size rfl _ _ _ _ G1.out.xx Tryz.underlying91 rfl Kq9 ?_)
   | (go_at_call 163;refine aqa ?_))
  refine aqb ?_
  clear g0 g1
  refine(lqG x cv tv p7 nm _ G1.out.c7 (aqN G1.out.c7) hs2).mono ?_
  rw [E2.out]
  rintro e w2 ⟨rfl,hb⟩
  have HB2:=Hq (HC1.out.trans ((But.of_below (S:= [b]) hb).mono (by have:=HC1.out.size;omega) (fun _ _ h=>h)))
  have F2:=Hq (G1.out.below hb)
  have r0:=(R1.out.below hb Om).cell 0 rfl
  have hz2:=hb.size
  clear hb
  cases v2 with
  |true=>
   go_wp2_with fail
   go_ret
   exact⟨rfl,HB2.out,F2.out.sm⟩
  |false=>
   go_wp2_with fail
   have g0:=F2.out.gg.cell 4 rfl
   have g1:=F2.out.gg.cell 5 rfl
   have hxl:=F2.out.xx.lt
   have G2:=Hq (F2.out.below ((Below.refl w2.heap.size w2).alloc Nr (.cells #[.int .i64 22, .func (.func 164) #[] #[.pointer (some ⟨p13,0,none⟩)]] 225)))
   have R2:=Hq (aql w2 [.int .i64 22, .func (.func 164) #[] #[.pointer (some ⟨p13,0,none⟩)]] 225)
   have HC2:=Hq (HB2.out.trans ((But.of_below (S:= [b]) ((Below.refl w2.heap.size w2).alloc Nr (.cells #[.int .i64 22, .func (.func 164) #[] #[.pointer (some ⟨p13,0,none⟩)]] 225))).mono HB2.out.size (fun _ _ h=>h)))
   have hzr:(w2.alloc (.cells #[.int .i64 22, .func (.func 164) #[] #[.pointer (some ⟨p13,0,none⟩)]] 225)).heap.size=w2.heap.size+1:=by simp
   rw [rounds_succ]
   go_wp2_with (first
    | (refine wpList_load_row rfl _ _ rfl w.heap.size rfl _ _ _ _ G2.out.xx Tryz.underlying91 rfl Kq9 ?_)
    | (go_at_call 164;refine aqa ?_))
   refine aqb ?_
   clear g0 g1
   refine(lqH x cv tv p13 is _ G2.out.c13 (aqN G2.out.c13)).mono ?_
   rw [E3.out]
   rintro e w3 ⟨rfl,hb⟩
   have HB3:=Hq (HC2.out.trans ((But.of_below (S:= [b]) hb).mono (by have:=HC2.out.size;omega) (fun _ _ h=>h)))
   have F3:=Hq (G2.out.below hb)
   have r0:=(R2.out.below hb Om).cell 0 rfl
   have hz3:=hb.size
   clear hb
   cases v3 with
   |true=>
    go_wp2_with fail
    go_ret
    exact⟨rfl,HB3.out,F3.out.sm⟩
   |false=>
    go_wp2_with fail
    have g0:=F3.out.gg.cell 6 rfl
    have g1:=F3.out.gg.cell 7 rfl
    have hxl:=F3.out.xx.lt
    have G3:=Hq (F3.out.below ((Below.refl w3.heap.size w3).alloc Nr (.cells #[.int .i64 23, .func (.func 165) #[] #[.pointer (some ⟨bk,0,none⟩), .pointer (some ⟨p7,0,none⟩)]] 225)))
    have R3:=Hq (aql w3 [.int .i64 23, .func (.func 165) #[] #[.pointer (some ⟨bk,0,none⟩), .pointer (some ⟨p7,0,none⟩)]] 225)
    have HC3:=Hq (HB3.out.trans ((But.of_below (S:= [b]) ((Below.refl w3.heap.size w3).alloc Nr (.cells #[.int .i64 23, .func (.func 165) #[] #[.pointer (some ⟨bk,0,none⟩), .pointer (some ⟨p7,0,none⟩)]] 225))).mono HB3.out.size (fun _ _ h=>h)))
    have hzr:(w3.alloc (.cells #[.int .i64 23, .func (.func 165) #[] #[.pointer (some ⟨bk,0,none⟩), .pointer (some ⟨p7,0,none⟩)]] 225)).heap.size=w3.heap.size+1:=by simp
    rw [rounds_succ]
    go_wp2_with (first
     | (refine wpList_load_row rfl _ _ rfl w.heap.size rfl _ _ _ _ G3.out.xx Tryz.underlying91 rfl Kq9 ?_)
     | (go_at_call 165;refine aqa ?_))
    refine aqb ?_
    clear g0 g1
    refine(lqK x cv tv HCV.out HTV.out bk p7 nm c _ ifs flds mths _ G3.out.kk G3.out.c7 (aqN G3.out.c7)).mono ?_
    rw [E4.out]
    rintro e w4 ⟨rfl,hb⟩
    have HB4:=Hq (HC3.out.trans ((But.of_below (S:= [b]) hb).mono (by have:=HC3.out.size;omega) (fun _ _ h=>h)))
    have F4:=Hq (G3.out.below hb)
    have r0:=(R3.out.below hb Om).cell 0 rfl
    have hz4:=hb.size
    clear hb
    cases v4 with
    |true=>
     go_wp2_with fail
     go_ret
     exact⟨rfl,HB4.out,F4.out.sm⟩
    |false=>
     go_wp2_with fail
     have g0:=F4.out.gg.cell 8 rfl
     have g1:=F4.out.gg.cell 9 rfl
     have hxl:=F4.out.xx.lt
     have G4:=Hq (F4.out.below ((Below.refl w4.heap.size w4).alloc Nr (.cells #[.int .i64 22, .func (.func 167) #[] #[.pointer (some ⟨p7,0,none⟩), .pointer (some ⟨p12,0,none⟩), .pointer (some ⟨p9,0,none⟩)]] 225)))
     have R4:=Hq (aql w4 [.int .i64 22, .func (.func 167) #[] #[.pointer (some ⟨p7,0,none⟩), .pointer (some ⟨p12,0,none⟩), .pointer (some ⟨p9,0,none⟩)]] 225)
     have HC4:=Hq (HB4.out.trans ((But.of_below (S:= [b]) ((Below.refl w4.heap.size w4).alloc Nr (.cells #[.int .i64 22, .func (.func 167) #[] #[.pointer (some ⟨p7,0,none⟩), .pointer (some ⟨p12,0,none⟩), .pointer (some ⟨p9,0,none⟩)]] 225))).mono HB4.out.size (fun _ _ h=>h)))
     have hzr:(w4.alloc (.cells #[.int .i64 22, .func (.func 167) #[] #[.pointer (some ⟨p7,0,none⟩), .pointer (some ⟨p12,0,none⟩), .pointer (some ⟨p9,0,none⟩)]] 225)).heap.size=w4.heap.size+1:=by simp
     rw [rounds_succ]
     go_wp2_with (first
      | (refine wpList_load_row rfl _ _ rfl w.heap.size rfl _ _ _ _ G4.out.xx Tryz.underlying91 rfl Kq9 ?_)
      | (go_at_call 167;refine aqa ?_))
     refine aqb ?_
     clear g0 g1
     refine(lqI x cv tv p7 p12 p9 nm ret d _ G4.out.c7 G4.out.c12 G4.out.c9 (aqN G4.out.c7) (aqN G4.out.c12) (aqN G4.out.c9)).mono ?_
     rw [E5.out]
     rintro e w5 ⟨rfl,hb⟩
     have HB5:=Hq (HC4.out.trans ((But.of_below (S:= [b]) hb).mono (by have:=HC4.out.size;omega) (fun _ _ h=>h)))
     have F5:=Hq (G4.out.below hb)
     have r0:=(R4.out.below hb Om).cell 0 rfl
     have hz5:=hb.size
     clear hb
     cases v5 with
     |true=>
      go_wp2_with fail
      go_ret
      exact⟨rfl,HB5.out,F5.out.sm⟩
     |false=>
      go_wp2_with fail
      have g0:=F5.out.gg.cell 10 rfl
      have g1:=F5.out.gg.cell 11 rfl
      have hxl:=F5.out.xx.lt
      have G5:=Hq (F5.out.below ((Below.refl w5.heap.size w5).alloc Nr (.cells #[.int .i64 24, .func (.func 168) #[] #[.pointer (some ⟨p5,0,none⟩), .pointer (some ⟨p7,0,none⟩), .pointer (some ⟨p9,0,none⟩)]] 225)))
      have R5:=Hq (aql w5 [.int .i64 24, .func (.func 168) #[] #[.pointer (some ⟨p5,0,none⟩), .pointer (some ⟨p7,0,none⟩), .pointer (some ⟨p9,0,none⟩)]] 225)
      have HC5:=Hq (HB5.out.trans ((But.of_below (S:= [b]) ((Below.refl w5.heap.size w5).alloc Nr (.cells #[.int .i64 24, .func (.func 168) #[] #[.pointer (some ⟨p5,0,none⟩), .pointer (some ⟨p7,0,none⟩), .pointer (some ⟨p9,0,none⟩)]] 225))).mono HB5.out.size (fun _ _ h=>h)))
      have hzr:(w5.alloc (.cells #[.int .i64 24, .func (.func 168) #[] #[.pointer (some ⟨p5,0,none⟩), .pointer (some ⟨p7,0,none⟩), .pointer (some ⟨p9,0,none⟩)]] 225)).heap.size=w5.heap.size+1:=by simp
      rw [rounds_succ]
      go_wp2_with (first
       | (refine wpList_load_row rfl _ _ rfl w.heap.size rfl _ _ _ _ G5.out.xx Tryz.underlying91 rfl Kq9 ?_)
       | (go_at_call 168;refine aqa ?_))
      refine aqb ?_
      clear g0 g1
      refine(lqJ x cv tv p5 p7 p9 b nm d seen _ G5.out.c5 G5.out.c7 G5.out.c9 (aqN G5.out.c5) (aqN G5.out.c7) (aqN G5.out.c9) hs2 hs3 hlen G5.out.sm).mono ?_
      rw [E6.out]
      rintro e w6 ⟨rfl,hb,hsm⟩
      have HB6:=Hq (HC5.out.trans (hb.mono (by have:=HC5.out.size;omega) (fun _ _ h=>h)))
      have F6:=Hq (G5.out.seen hb hsm)
      have r0:=(R5.out.but hb (aqk (by have:=F5.out.sm.lt;omega))).cell 0 rfl
      have hz6:=hb.size
      clear hb hsm
      cases v6 with
      |true=>
       go_wp2_with fail
       go_ret
       exact⟨rfl,HB6.out,F6.out.sm⟩
      |false=>
       go_wp2_with fail
       have g0:=F6.out.gg.cell 12 rfl
       have g1:=F6.out.gg.cell 13 rfl
       have hxl:=F6.out.xx.lt
       have G6:=Hq (F6.out.below ((Below.refl w6.heap.size w6).alloc Nr (.cells #[.int .i64 25, .func (.func 169) #[] #[.pointer (some ⟨p11,0,none⟩)]] 225)))
       have R6:=Hq (aql w6 [.int .i64 25, .func (.func 169) #[] #[.pointer (some ⟨p11,0,none⟩)]] 225)
       have HC6:=Hq (HB6.out.trans ((But.of_below (S:= [b]) ((Below.refl w6.heap.size w6).alloc Nr (.cells #[.int .i64 25, .func (.func 169) #[] #[.pointer (some ⟨p11,0,none⟩)]] 225))).mono HB6.out.size (fun _ _ h=>h)))
       have hzr:(w6.alloc (.cells #[.int .i64 25, .func (.func 169) #[] #[.pointer (some ⟨p11,0,none⟩)]] 225)).heap.size=w6.heap.size+1:=by simp
       rw [rounds_succ]
       go_wp2_with (first
        | (refine wpList_load_row rfl _ _ rfl w.heap.size rfl _ _ _ _ G6.out.xx Tryz.underlying91 rfl Kq9 ?_)
        | (go_at_call 169;refine aqa ?_))
       refine aqb ?_
       clear g0 g1
       refine(lqL x cv tv ok2 p11 args _ G6.out.ma G6.out.c11 (aqN G6.out.c11) hs4).mono ?_
       rw [E7.out]
       rintro e w7 ⟨rfl,hb⟩
       have HB7:=Hq (HC6.out.trans ((But.of_below (S:= [b]) hb).mono (by have:=HC6.out.size;omega) (fun _ _ h=>h)))
       have F7:=Hq (G6.out.below hb)
       have r0:=(R6.out.below hb Om).cell 0 rfl
       have hz7:=hb.size
       clear hb
       cases v7 with
       |true=>
        go_wp2_with fail
        go_ret
        exact⟨rfl,HB7.out,F7.out.sm⟩
       |false=>
        go_wp2_with fail
        have g0:=F7.out.gg.cell 14 rfl
        have g1:=F7.out.gg.cell 15 rfl
        have hxl:=F7.out.xx.lt
        have G7:=Hq (F7.out.below ((Below.refl w7.heap.size w7).alloc Nr (.cells #[.int .i64 20, .func (.func 171) #[] #[.pointer (some ⟨bk,0,none⟩)]] 225)))
        have R7:=Hq (aql w7 [.int .i64 20, .func (.func 171) #[] #[.pointer (some ⟨bk,0,none⟩)]] 225)
        have HC7:=Hq (HB7.out.trans ((But.of_below (S:= [b]) ((Below.refl w7.heap.size w7).alloc Nr (.cells #[.int .i64 20, .func (.func 171) #[] #[.pointer (some ⟨bk,0,none⟩)]] 225))).mono HB7.out.size (fun _ _ h=>h)))
        have hzr:(w7.alloc (.cells #[.int .i64 20, .func (.func 171) #[] #[.pointer (some ⟨bk,0,none⟩)]] 225)).heap.size=w7.heap.size+1:=by simp
        rw [rounds_succ]
        go_wp2_with (first
         | (refine wpList_load_row rfl _ _ rfl w.heap.size rfl _ _ _ _ G7.out.xx Tryz.underlying91 rfl Kq9 ?_)
         | (go_at_call 171;refine aqa ?_))
        refine aqb ?_
        clear g0 g1
        refine(lqM x cv tv bk c A cap ifs flds mths ok ok2 _ G7.out.bo G7.out.kk G7.out.ma HN.out).mono ?_
        rw [E8.out]
        rintro e w8 ⟨rfl,hb⟩
        have HB8:=Hq (HC7.out.trans ((But.of_below (S:= [b]) hb).mono (by have:=HC7.out.size;omega) (fun _ _ h=>h)))
        have F8:=Hq (G7.out.below hb)
        have r0:=(R7.out.below hb Om).cell 0 rfl
        have hz8:=hb.size
        clear hb
        cases v8 with
        |true=>
         go_wp2_with fail
         go_ret
         exact⟨rfl,HB8.out,F8.out.sm⟩
        |false=>
         go_wp2_with fail
         rw [rounds_succ]
         go_wp2_with fail
         go_ret
         exact⟨rfl,HB8.out,F8.out.sm⟩
theorem gqw: ∀(f:Nat) (r:ByteArray) (args:List UInt8) (e:Nat),args.length≤16→(cqG f r args e).2.1.length≤16
 |0,r,args,e,h=>by rw [cqG];exact h
 |f+1,r,args,e,h=>by
  rw [cqG]
  by_cases h1:r.size=0
  ·rw [if_pos h1];exact h
  rw [if_neg h1]
  by_cases h2:r.data.toList.headD 0=41
  ·rw [if_pos h2];exact h
  rw [if_neg h2]
  by_cases h3:aqD (r.extract 0 (aqA r)).data.toList=false∨args.length=16
  ·rw [if_pos h3];exact h
  rw [if_neg h3]
  exact gqw f _ _ _ (by rw [List.length_append];simp only [List.length_cons,List.length_nil];omega)
theorem fqV (s:ByteArray):(aqB s).1.size≤16:=by
 unfold aqB
 by_cases h1:s.size=0∨s.data.toList.headD 0≠40∨255<s.size
 ·rw [if_pos h1];decide
 rw [if_neg h1]
 have hl:=gqw 256 (s.extract 1 s.size) [] 1 Sp
 obtain⟨⟨good,args,e⟩,hv⟩: ∃v,cqG 256 (s.extract 1 s.size) [] 1=v:=⟨_,rfl⟩
 rw [hv] at hl⊢
 dsimp only
 by_cases h2:good=false∨s.size≤e∨s.data.toList.getD e 0≠41
 ·rw [if_pos h2];decide
 rw [if_neg h2]
 by_cases h3:(s.extract (e+1) s.size).data.toList≠ [86]∧aqD (s.extract (e+1) s.size).data.toList=false
 ·rw [if_pos h3];decide
 rw [if_neg h3]
 show args.toArray.size≤16
 simpa using hl
def fqf (pool:List Ko) (cacc:Int) (x:aqr):Bool:=(!(aqf pool x.name).isSome|| !(aqf pool x.desc).isSome) || !aq5 ((aqf pool x.name).getD ⟨#[]⟩).data.toList|| !(aqB ((aqf pool x.desc).getD ⟨#[]⟩)).2.2||cqE cacc x.acc ((aqf pool x.name).getD ⟨#[]⟩).data.toList||dqJ ((aqf pool x.name).getD ⟨#[]⟩).data.toList (aqB ((aqf pool x.desc).getD ⟨#[]⟩)).2.1.data.toList ((aqf pool x.desc).getD ⟨#[]⟩).data.toList
def cqC (pool:List Ko) (cacc:Int) (seen:List NmD) (x:aqr):Int:=hqO (!(aqf pool x.name).isSome|| !(aqf pool x.desc).isSome) (!aq5 ((aqf pool x.name).getD ⟨#[]⟩).data.toList) (!(aqB ((aqf pool x.desc).getD ⟨#[]⟩)).2.2) (cqE cacc x.acc ((aqf pool x.name).getD ⟨#[]⟩).data.toList) (dqJ ((aqf pool x.name).getD ⟨#[]⟩).data.toList (aqB ((aqf pool x.desc).getD ⟨#[]⟩)).2.1.data.toList ((aqf pool x.desc).getD ⟨#[]⟩).data.toList) (decide ((((aqf pool x.name).getD ⟨#[]⟩).data.toList,((aqf pool x.desc).getD ⟨#[]⟩).data.toList)∈seen)) (cq7 x (aqB ((aqf pool x.desc).getD ⟨#[]⟩)).1.size) (dq3 pool x)
theorem iq0 (c:aqc) (A:Option Addr) (cap:Nat) (ifs flds mths:Value) (ok ok2:Nat→Prop) (x:aqr) (cv tv:Value) (b:Nat) (seen:List NmD) (w:World) (h:aqQ w ok c A cap ifs flds mths) (hM:aqO w ok2 x cv tv) (hs:bqU w b seen) (hlen:seen.length≤1048576) (hn1:bqA x.name) (hn2:bqA x.desc) (hn3: ∀t∈x.traps,bqA t.kind) (ht: ∀k∈c.pool,k.text.size≤65536):
  Calls Tryz.prog 128 #[bqb c (.slice A c.pool.length cap) ifs flds mths,bqL x cv tv, .map (some b)] w fun e w'=>
   e= .returned (.int .i64 (cqC c.pool c.acc seen x))∧But w.heap.size [b] w w'∧bqU w' b (if fqf c.pool c.acc x then seen else cqX c.pool x.name x.desc::seen):=by
 have hcv:cv.oneCell'=true:=by obtain⟨Ac,kc,rfl,_,zc⟩:=aqd hM.hcode;rfl
 have htv:tv.oneCell'=true:=by obtain⟨Ac,kc,rfl,_,zc⟩:=aqd hM.htraps;rfl
 have hmf: ∀(fn:Fn) (first cap:Array Value) (w:World),(Instr.makeFunc fn first cap).run Tryz.prog w= .ok (.func fn first cap) w:=fun _ _ _ _=>rfl
 have BW0:=Hq ((((Below.refl w.heap.size w).alloc Nr (.cells #[.int .i64 c.minor, .int .i64 c.major, .slice A c.pool.length cap, .int .i64 c.acc, .int .i64 c.this, .int .i64 c.sup,ifs,flds,mths] 179)).alloc Sp (.cells #[.int .i64 x.acc, .int .i64 x.name, .int .i64 x.desc, .bool x.has, .int .i64 x.stack, .int .i64 x.locals,cv,tv] 91)).alloc Sx9 (.cells #[.map (some b)] 199))
 have X0:=Hq ((aql w [.int .i64 c.minor, .int .i64 c.major, .slice A c.pool.length cap, .int .i64 c.acc, .int .i64 c.this, .int .i64 c.sup,ifs,flds,mths] 179).below ((Rf9.alloc Nr (.cells #[.int .i64 x.acc, .int .i64 x.name, .int .i64 x.desc, .bool x.has, .int .i64 x.stack, .int .i64 x.locals,cv,tv] 91)).alloc Sp (.cells #[.map (some b)] 199)) Sp)
 have F0:=Hq ((aqh (w.alloc (.cells #[.int .i64 c.minor, .int .i64 c.major, .slice A c.pool.length cap, .int .i64 c.acc, .int .i64 c.this, .int .i64 c.sup,ifs,flds,mths] 179)) [.int .i64 x.acc, .int .i64 x.name, .int .i64 x.desc, .bool x.has, .int .i64 x.stack, .int .i64 x.locals,cv,tv] 91 (w.heap.size+1) Sp).below (Rf9.alloc Nr (.cells #[.map (some b)] 199)) Sp)
 have C5:=Hq (show cqB _ (w.heap.size+2) (.map (some b)) from(aqh ((w.alloc (.cells #[.int .i64 c.minor, .int .i64 c.major, .slice A c.pool.length cap, .int .i64 c.acc, .int .i64 c.this, .int .i64 c.sup,ifs,flds,mths] 179)).alloc (.cells #[.int .i64 x.acc, .int .i64 x.name, .int .i64 x.desc, .bool x.has, .int .i64 x.stack, .int .i64 x.locals,cv,tv] 91)) [.map (some b)] 199 (w.heap.size+2) Sp).cell 0 rfl)
 have H0:=Hq (h.below BW0.out)
 have S0:=Hq (hs.below BW0.out)
 have hbl:=hs.lt
 have HM:=Hq hM
 have HN1:=Hq hn1
 have HN2:=Hq hn2
 have HN3:=Hq hn3
 have HT:=Hq ht
 have hs2:=dqC (n:=x.name) ht
 have hs3:=dqC (n:=x.desc) ht
 clear h hs hn1 hn2 hn3 ht hM
 rw [aqe]
 unfold bqL cqC fqf cqX
 obtain⟨tn,htn⟩: ∃s,aqf c.pool x.name=s:=⟨_,rfl⟩
 obtain⟨td,htd⟩: ∃s,aqf c.pool x.desc=s:=⟨_,rfl⟩
 rw [htn] at hs2⊢
 rw [htd] at hs3⊢
 have HTD:=Hq htd
 have HTN:=Hq htn
 clear htn htd
 have hs4:=fqV (td.getD ⟨#[]⟩)
 have HKD:=Hq (fun W=>dqi (td.getD ⟨#[]⟩) W Om)
 obtain⟨⟨args,ret,is⟩,hkv⟩: ∃v,aqB (td.getD ⟨#[]⟩)=v:=⟨_,rfl⟩
 rw [hkv] at HKD hs4⊢
 clear hkv
 dsimp only at HKD hs4⊢
 obtain⟨SN,hSN⟩: ∃s,(if(!tn.isSome|| !td.isSome) || !aq5 (tn.getD ⟨#[]⟩).data.toList|| !is||cqE c.acc x.acc (tn.getD ⟨#[]⟩).data.toList||dqJ (tn.getD ⟨#[]⟩).data.toList ret.data.toList (td.getD ⟨#[]⟩).data.toList then seen else((tn.getD ⟨#[]⟩).data.toList,(td.getD ⟨#[]⟩).data.toList)::seen)=s:=⟨_,rfl⟩
 rw [hSN]
 have HSN:=Hq hSN
 clear hSN
 obtain⟨R,hR⟩: ∃r,hqO (!tn.isSome|| !td.isSome) (!aq5 (tn.getD ⟨#[]⟩).data.toList) (!is) (cqE c.acc x.acc (tn.getD ⟨#[]⟩).data.toList) (dqJ (tn.getD ⟨#[]⟩).data.toList ret.data.toList (td.getD ⟨#[]⟩).data.toList) (decide (((tn.getD ⟨#[]⟩).data.toList,(td.getD ⟨#[]⟩).data.toList)∈seen)) (cq7 x args.size) (dq3 c.pool x)=r:=⟨_,rfl⟩
 rw [hR]
 have HR:=Hq hR
 clear hR
 have hz0:(((w.alloc (.cells #[.int .i64 c.minor, .int .i64 c.major, .slice A c.pool.length cap, .int .i64 c.acc, .int .i64 c.this, .int .i64 c.sup,ifs,flds,mths] 179)).alloc (.cells #[.int .i64 x.acc, .int .i64 x.name, .int .i64 x.desc, .bool x.has, .int .i64 x.stack, .int .i64 x.locals,cv,tv] 91)).alloc (.cells #[.map (some b)] 199)).heap.size=w.heap.size+3:=by simp
 go_enter Tryz.func128,Tryz.ntmps128
 go_wp2_with (first
  | (refine wpList_load_row rfl _ _ rfl w.heap.size rfl _ _ _ _ X0.out Tryz.underlying179 rfl Kq9 ?_)
  | (go_at_call 97;refine aqa ?_))
 generalize (((w.alloc (.cells #[.int .i64 c.minor, .int .i64 c.major, .slice A c.pool.length cap, .int .i64 c.acc, .int .i64 c.this, .int .i64 c.sup,ifs,flds,mths] 179)).alloc (.cells #[.int .i64 x.acc, .int .i64 x.name, .int .i64 x.desc, .bool x.has, .int .i64 x.stack, .int .i64 x.locals,cv,tv] 91)).alloc (.cells #[.map (some b)] 199))=w0 at*
 refine aqb ?_
 refine(aqR c A cap _ flds mths x.name ok _ H0.out HN1.out).mono ?_
 rw [HTN.out]
 rintro e w1 ⟨rfl,hb⟩
 simp only [cqh]
 have hz1:=hb.size
 have B1:=Hq (BW0.out.trans (hb.mono Om))
 have X1:=Hq (X0.out.below hb X0.out.lt)
 have F1:=Hq (F0.out.below hb F0.out.lt)
 have C51:=Hq (cqB.below C5.out hb)
 have H1:=Hq (H0.out.below hb)
 have S1:=Hq (S0.out.below hb)
 clear hb X0 F0 C5 H0 S0 BW0
 have f2:=F1.out.cell 2 rfl
 obtain⟨x1,x2,x3,x4,x5,x6,x7,x8,x9,x10,x11,x12⟩:=far w.heap.size w1.heap.size Om
 obtain⟨y1,y2,y3,y4,y5,y6,y7,y8,y9,y10,y11,y12⟩:=far (w.heap.size+1) w1.heap.size Om
 have BW1:=Hq (((Below.refl w1.heap.size w1).alloc Nr (.cells #[.string (tn.getD ⟨#[]⟩)] 9)).alloc Sx9 (.cells #[.bool tn.isSome] 4))
 have C7:=Hq ((aqh w1 [.string (tn.getD ⟨#[]⟩)] 9 _ rfl).below (Rf9.alloc Nr (.cells #[.bool tn.isSome] 4)) Sx9)
 have C8:=Hq (aqh (w1.alloc (.cells #[.string (tn.getD ⟨#[]⟩)] 9)) [.bool tn.isSome] 4 (w1.heap.size+1) Sp)
 have XX1:=Hq (X1.out.below BW1.out X1.out.lt)
 go_wp2_with (first
  | (refine wpList_load_row rfl _ _ rfl w.heap.size rfl _ _ _ _ XX1.out Tryz.underlying179 rfl Kq9 ?_)
  | (go_at_call 97;refine aqa ?_))
 refine aqb ?_
 clear x1 x2 x3 x4 x5 x6 x7 x8 x9 x10 x11 x12 y1 y2 y3 y4 y5 y6 y7 y8 y9 y10 y11 y12 f2 XX1
 refine(aqR c A cap _ flds mths x.desc ok _ (H1.out.below BW1.out) HN2.out).mono ?_
 rw [HTD.out]
 rintro e w2 ⟨rfl,hb⟩
 simp only [cqh]
 have hz2:=hb.size
 simp only [World.size_alloc] at hz2
 have hb':=BW1.out.trans (hb.mono Sx9)
 have B2:=Hq (B1.out.trans (hb'.mono Om))
 have X2:=Hq (X1.out.below hb' X1.out.lt)
 have F2:=Hq (F1.out.below hb' F1.out.lt)
 have C52:=Hq (cqB.below C51.out hb')
 have H2:=Hq (H1.out.below hb')
 have S2:=Hq (S1.out.below hb')
 have C72:=Hq (C7.out.below hb Sx9)
 have C82:=Hq (C8.out.below hb Sx9)
 clear hb hb' X1 F1 C51 H1 S1 BW1 B1 C7 C8 HTD HTN
 have BW2:=Hq (((Below.refl w2.heap.size w2).alloc Nr (.cells #[.string (td.getD ⟨#[]⟩)] 9)).alloc Sx9 (.cells #[.bool td.isSome] 4))
 have C9:=Hq ((aqh w2 [.string (td.getD ⟨#[]⟩)] 9 _ rfl).below (Rf9.alloc Nr (.cells #[.bool td.isSome] 4)) Sx9)
 have C10:=Hq (aqh (w2.alloc (.cells #[.string (td.getD ⟨#[]⟩)] 9)) [.bool td.isSome] 4 (w2.heap.size+1) Sp)
 go_wp2_with (go_at_call 160;refine aqa ?_)
 refine aqb ?_
 refine(HKD.out _).mono ?_
 rintro e w3 ⟨rfl,hb⟩
 have hz3:=hb.size
 simp only [World.size_alloc] at hz3
 have hb':=BW2.out.trans (hb.mono Sx9)
 have B3:=Hq (B2.out.trans (hb'.mono Om))
 have X3:=Hq (X2.out.below hb' X2.out.lt)
 have F3:=Hq (F2.out.below hb' F2.out.lt)
 have C53:=Hq (cqB.below C52.out hb')
 have H3:=Hq (H2.out.below hb')
 have S3:=Hq (S2.out.below hb')
 have C73:=Hq (C72.out.below hb' C72.out.lt)
 have C83:=Hq (C82.out.below hb' C82.out.lt)
 have C93:=Hq (C9.out.below hb Sx9)
 have C103:=Hq (C10.out.below hb Sx9)
 clear hb hb' X2 F2 C52 H2 S2 BW2 B2 C9 C10 C72 C82 HKD
 obtain⟨y1,y2,y3,y4,y5,y6,y7,y8,y9,y10,y11,y12⟩:=far (w.heap.size+1) w3.heap.size Om
 have BW3a:=Hq ((((Below.refl w3.heap.size w3).alloc Nr (.cells #[.string args] 9)).alloc Sx9 (.cells #[.string ret] 9)).alloc Sx9 (.cells #[.bool is] 4))
 have BW3:=Hq (BW3a.out.alloc Sx9 (.cells (dqD w.heap.size (w.heap.size+2) w1.heap.size (w1.heap.size+1) w2.heap.size (w2.heap.size+1) w3.heap.size (w3.heap.size+1) (w3.heap.size+1+1)).toArray 225))
 have FF3:=Hq (F3.out.below BW3a.out F3.out.lt)
 have C11:=Hq ((aqh w3 [.string args] 9 _ rfl).below (((Rf9.alloc Nr (.cells #[.string ret] 9)).alloc Sx9 (.cells #[.bool is] 4)).alloc Sx9 (.cells (dqD w.heap.size (w.heap.size+2) w1.heap.size (w1.heap.size+1) w2.heap.size (w2.heap.size+1) w3.heap.size (w3.heap.size+1) (w3.heap.size+1+1)).toArray 225)) Sx9)
 have C12:=Hq ((aqh (w3.alloc (.cells #[.string args] 9)) [.string ret] 9 (w3.heap.size+1) Sp).below ((Rf9.alloc Nr (.cells #[.bool is] 4)).alloc Sx9 (.cells (dqD w.heap.size (w.heap.size+2) w1.heap.size (w1.heap.size+1) w2.heap.size (w2.heap.size+1) w3.heap.size (w3.heap.size+1) (w3.heap.size+1+1)).toArray 225)) Sx9)
 have C13:=Hq ((aqh ((w3.alloc (.cells #[.string args] 9)).alloc (.cells #[.string ret] 9)) [.bool is] 4 (w3.heap.size+1+1) Sp).below (Rf9.alloc Nr (.cells (dqD w.heap.size (w.heap.size+2) w1.heap.size (w1.heap.size+1) w2.heap.size (w2.heap.size+1) w3.heap.size (w3.heap.size+1) (w3.heap.size+1+1)).toArray 225)) Sx9)
 have G3:=Hq (aqh (((w3.alloc (.cells #[.string args] 9)).alloc (.cells #[.string ret] 9)).alloc (.cells #[.bool is] 4)) (dqD w.heap.size (w.heap.size+2) w1.heap.size (w1.heap.size+1) w2.heap.size (w2.heap.size+1) w3.heap.size (w3.heap.size+1) (w3.heap.size+1+1)) 225 (w3.heap.size+1+1+1) Sp)
 have hz4:((((w3.alloc (.cells #[.string args] 9)).alloc (.cells #[.string ret] 9)).alloc (.cells #[.bool is] 4)).alloc (.cells (dqD w.heap.size (w.heap.size+2) w1.heap.size (w1.heap.size+1) w2.heap.size (w2.heap.size+1) w3.heap.size (w3.heap.size+1) (w3.heap.size+1+1)).toArray 225)).heap.size=w3.heap.size+4:=by simp
 go_wp2_with (first
  | (refine wpList_load_row rfl _ _ rfl (w.heap.size+1) rfl _ _ _ _ FF3.out Tryz.underlying91 rfl Kq9 ?_)
  | (go_at_call 161;refine aqa ?_))
 refine aqb ?_
 clear y1 y2 y3 y4 y5 y6 y7 y8 y9 y10 y11 y12 FF3
 have HF:=nqd.mk (c:=c) (A:=A) (cap:=cap) (ifs:=ifs) (flds:=flds) (mths:=mths) (ok:=ok) (ok2:=ok2) (x:=x) (seen:=seen) G3.out (X3.out.below BW3.out X3.out.lt)
  (Bx.below F3.out (w':=_) BW3.out F3.out.lt) (cqB.below C53.out BW3.out) ((C73.out.below BW3.out C73.out.lt).cell 0 rfl) ((C83.out.below BW3.out C83.out.lt).cell 0 rfl) ((C93.out.below BW3.out C93.out.lt).cell 0 rfl) ((C103.out.below BW3.out C103.out.lt).cell 0 rfl) (C11.out.cell 0 rfl) (C12.out.cell 0 rfl) (C13.out.cell 0 rfl) (H3.out.below BW3.out)
  ⟨HM.out.hcode.keep (aqC.of_below (B3.out.trans (BW3.out.mono Om))),HM.out.htraps.keep (aqC.of_below (B3.out.trans (BW3.out.mono Om)))⟩ (S3.out.below BW3.out)
 have HF2:=HF.below (Rf9.alloc Nr (.cells #[.int .i64 x.acc, .int .i64 x.name, .int .i64 x.desc, .bool x.has, .int .i64 x.stack, .int .i64 x.locals,cv,tv] 91))
 have HF3:=nqd.mk HF2.gg HF2.kk (aql _ [.int .i64 x.acc, .int .i64 x.name, .int .i64 x.desc, .bool x.has, .int .i64 x.stack, .int .i64 x.locals,cv,tv] 91) HF2.c5 HF2.c7 HF2.c8 HF2.c9 HF2.c10 HF2.c11 HF2.c12 HF2.c13 HF2.bo HF2.ma HF2.sm
 refine(hqP c A cap ifs flds mths ok ok2 _ w.heap.size (w.heap.size+2) w1.heap.size (w1.heap.size+1) w2.heap.size (w2.heap.size+1) w3.heap.size (w3.heap.size+1) (w3.heap.size+1+1) b _ _ args ret tn.isSome td.isSome is x cv tv hcv htv seen _ HF3 Om hs2 hs3 Om hlen HN3.out).mono ?_
 rintro e w4 ⟨he,hb,hsm⟩
 have he:e= .returned (.int .i64 R):=he.trans (by rw [←HR.out])
 subst he
 have B4:=Hq ((But.of_below (S:= [b]) (B3.out.trans (BW3.out.mono Om))).trans (hb.mono Om (fun _ _ h=>h)))
 have S4:=Hq (show bqU w4 b SN by rw [←HSN.out];exact hsm)
 clear hb hsm HF HF2 HF3
 go_wp2_with fail
 go_ret
 exact⟨rfl,B4.out,S4.out⟩
end Go.Proofs.YtdbniocnjhfhdaaGreatDoor
