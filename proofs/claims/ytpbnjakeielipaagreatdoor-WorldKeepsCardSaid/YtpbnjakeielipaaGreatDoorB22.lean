/-
  What the laws rest on, part 22: walks of the program's functions and plain laws. Conditions: none but those that each theorem names.
-/
import Derived.Test.YtpbnjakeielipaaGreatDoorB21
import Derived.Test.YtpbnjakeielipaaGreatDoorB07
import Derived.Laws.EntriesVeiled
set_option linter.unusedSimpArgs false
set_option linter.unusedVariables false
set_option maxRecDepth 100000
set_option maxHeartbeats 4000000
namespace Go.Proofs.YtpbnjakeielipaaGreatDoor
open Go Go.RowKit Lib
def mflags (cacc a:Int) (nm:List UInt8):Bool:=
 if someB a 256=true then true else if 1<kindsN a then true else if(someB a 1024&&someB a 26)=true then true else
 if(someB cacc 512&&(!someB a 3||someB a 16))=true then true else
 if(nm==initL)=true then someB a 1032||someB cacc 512 else if(nm==clinitL)=true then !someB a 8||someB a 1024 else false
theorem mflags_any (x:MethV) (cv tv:Value) (c:ClassV) (pool ifs flds mths:Value) (nm:ByteArray) (w:World):
  Calls Tryz.prog 163 #[bookV c pool ifs flds mths,methV x cv tv, .string nm] w fun e w'=>e= .returned (.bool (mflags c.acc x.acc nm.data.toList))∧Below w.heap.size w w':=by
 obtain⟨a,ha⟩: ∃a,x.acc=a:=⟨_,rfl⟩
 unfold methV
 rw [ha]
 have HW0:=Lib.hid (((Below.refl w.heap.size w).alloc (Nat.le_refl _) (.cells #[.int .i64 c.minor, .int .i64 c.major,pool, .int .i64 c.acc, .int .i64 c.this, .int .i64 c.sup,ifs,flds,mths] 248)).alloc (by simp) (.cells #[.int .i64 a, .int .i64 x.name, .int .i64 x.desc, .bool x.has, .int .i64 x.stack, .int .i64 x.locals,cv,tv] 172))
 have HW:=Lib.hid (fun m=>HW0.out.trans ((below_drewN (Below.refl ((w.alloc (.cells #[.int .i64 c.minor, .int .i64 c.major,pool, .int .i64 c.acc, .int .i64 c.this, .int .i64 c.sup,ifs,flds,mths] 248)).alloc (.cells #[.int .i64 a, .int .i64 x.name, .int .i64 x.desc, .bool x.has, .int .i64 x.stack, .int .i64 x.locals,cv,tv] 172)).heap.size ((w.alloc (.cells #[.int .i64 c.minor, .int .i64 c.major,pool, .int .i64 c.acc, .int .i64 c.this, .int .i64 c.sup,ifs,flds,mths] 248)).alloc (.cells #[.int .i64 a, .int .i64 x.name, .int .i64 x.desc, .bool x.has, .int .i64 x.stack, .int .i64 x.locals,cv,tv] 172))) m).mono (by simp<;>omega)))
 have X0:=Lib.hid ((bx_new w _ _).below ((Below.refl _ (w.alloc (.cells #[.int .i64 c.minor, .int .i64 c.major,pool, .int .i64 c.acc, .int .i64 c.this, .int .i64 c.sup,ifs,flds,mths] 248))).alloc (Nat.le_refl _) (.cells #[.int .i64 a, .int .i64 x.name, .int .i64 x.desc, .bool x.has, .int .i64 x.stack, .int .i64 x.locals,cv,tv] 172)) (by simp))
 have F0:=Lib.hid (bx_new_at (w.alloc (.cells #[.int .i64 c.minor, .int .i64 c.major,pool, .int .i64 c.acc, .int .i64 c.this, .int .i64 c.sup,ifs,flds,mths] 248)) [.int .i64 a, .int .i64 x.name, .int .i64 x.desc, .bool x.has, .int .i64 x.stack, .int .i64 x.locals,cv,tv] 172 (w.heap.size+1) (by simp))
 have xc:((w.alloc (.cells #[.int .i64 c.minor, .int .i64 c.major,pool, .int .i64 c.acc, .int .i64 c.this, .int .i64 c.sup,ifs,flds,mths] 248)).alloc (.cells #[.int .i64 a, .int .i64 x.name, .int .i64 x.desc, .bool x.has, .int .i64 x.stack, .int .i64 x.locals,cv,tv] 172)).cell? ⟨w.heap.size,3,none⟩=some (.int .i64 c.acc):=X0.out.cell 3 rfl
 have fc:=F0.out.cell 0 rfl
 have HS:=Lib.hid (fun(f:Int) W=>some_any a f W)
 have C1:=Lib.hid (kinds_cnt a)
 obtain⟨v512,h512⟩: ∃v,someB c.acc 512=v:=⟨_,rfl⟩
 have SQ:=Lib.hid (fun m:Nat=> (some_any c.acc 512 (((w.alloc (.cells #[.int .i64 c.minor, .int .i64 c.major,pool, .int .i64 c.acc, .int .i64 c.this, .int .i64 c.sup,ifs,flds,mths] 248)).alloc (.cells #[.int .i64 a, .int .i64 x.name, .int .i64 x.desc, .bool x.has, .int .i64 x.stack, .int .i64 x.locals,cv,tv] 172)).drewN m)).mono (R':=fun e w'=>e= .returned (.bool v512)∧w'=((w.alloc (.cells #[.int .i64 c.minor, .int .i64 c.major,pool, .int .i64 c.acc, .int .i64 c.this, .int .i64 c.sup,ifs,flds,mths] 248)).alloc (.cells #[.int .i64 a, .int .i64 x.name, .int .i64 x.desc, .bool x.has, .int .i64 x.stack, .int .i64 x.locals,cv,tv] 172)).drewN m) fun e w' hq=> ⟨by rw [←h512];exact hq.1,hq.2.symm⟩)
 obtain⟨R,hR⟩: ∃R,mflags c.acc a nm.data.toList=R:=⟨_,rfl⟩
 rw [hR]
 obtain⟨n,hn⟩: ∃n,kindsN a=n:=⟨_,rfl⟩
 obtain⟨v,hv⟩: ∃v,decide ((n:Int) >1)=v:=⟨_,rfl⟩
 obtain⟨v256,h256⟩: ∃v,someB a 256=v:=⟨_,rfl⟩
 obtain⟨v1024,h1024⟩: ∃v,someB a 1024=v:=⟨_,rfl⟩
 obtain⟨v26,h26⟩: ∃v,someB a 26=v:=⟨_,rfl⟩
 obtain⟨v3,h3⟩: ∃v,someB a 3=v:=⟨_,rfl⟩
 obtain⟨v16,h16⟩: ∃v,someB a 16=v:=⟨_,rfl⟩
 obtain⟨v1032,h1032⟩: ∃v,someB a 1032=v:=⟨_,rfl⟩
 obtain⟨v8,h8⟩: ∃v,someB a 8=v:=⟨_,rfl⟩
 obtain⟨b1,e1⟩: ∃m,(nm.toList== [60,105,110,105,116,62])=m:=⟨_,rfl⟩
 obtain⟨b2,e2⟩: ∃m,(nm.toList== [60,99,108,105,110,105,116,62])=m:=⟨_,rfl⟩
 have hv1:(1<n)=(v=true):=by rw [←hv];simp;omega
 unfold mflags at hR
 rw [h256,hn,h1024,h26,h512,h3,h16, ←ByteArray.toList_eq,show(nm.toList==initL)=b1 from e1,show(nm.toList==clinitL)=b2 from e2,h1032,h8] at hR
 simp only [hv1] at hR
 rw [hn] at C1
 have HR:=Lib.hid hR
 clear hn hR hv1 h512
 rw [bookV_open]
 go_enter Tryz.func163,Tryz.ntmps163
 go_wp2_with fail
 go_quiet ((go_at_call 146;exact Calls.quiet_of_same (SQ.out _)))
 cases v256
 case true=>
  go_wp2_with (go_at_call 146;(with_reducible refine(HS.out _ _).mono ?_);rintro e w2 ⟨rfl,rfl⟩)
  go_ret
  exact⟨by rw [←HR.out];rfl,HW.out _⟩
 cases v
 case true=>
  go_wp2_with (first
   | (go_at_call 146;(with_reducible refine(HS.out _ _).mono ?_);rintro e w2 ⟨rfl,rfl⟩)
   | (go_at_call 154;(with_reducible refine(C1.out _).mono ?_);rintro e w1 ⟨rfl,hb⟩;have HB:=Lib.hid ((HW.out _).trans (hb.mono (by simp<;>omega)));clear hb))
  go_ret
  exact⟨by rw [←HR.out];rfl,HB.out⟩
 cases v1024<;>cases v26
 case true.true=>
  go_wp2_with (first
   | (go_at_call 146;(with_reducible refine(HS.out _ _).mono ?_);rintro e w2 ⟨rfl,rfl⟩)
   | (go_at_call 154;(with_reducible refine(C1.out _).mono ?_);rintro e w1 ⟨rfl,hb⟩;have HB:=Lib.hid ((HW.out _).trans (hb.mono (by simp<;>omega)));clear hb))
  go_ret
  exact⟨by rw [←HR.out];rfl,HB.out⟩
 all_goals
  cases v512
  case' true=>
   cases v3
   case false=>
    go_wp2_with (first
     | (go_at_call 146;(with_reducible refine(HS.out _ _).mono ?_);rintro e w2 ⟨rfl,rfl⟩)
     | (go_at_call 154;(with_reducible refine(C1.out _).mono ?_);rintro e w1 ⟨rfl,hb⟩;have HB:=Lib.hid ((HW.out _).trans (hb.mono (by simp<;>omega)));clear hb))
    go_ret
    exact⟨by rw [←HR.out];rfl,HB.out⟩
   cases v16
   case true=>
    go_wp2_with (first
     | (go_at_call 146;(with_reducible refine(HS.out _ _).mono ?_);rintro e w2 ⟨rfl,rfl⟩)
     | (go_at_call 154;(with_reducible refine(C1.out _).mono ?_);rintro e w1 ⟨rfl,hb⟩;have HB:=Lib.hid ((HW.out _).trans (hb.mono (by simp<;>omega)));clear hb))
    go_ret
    exact⟨by rw [←HR.out];rfl,HB.out⟩
  all_goals
   cases b1
   case true=>
    cases v1032
    all_goals
     go_wp2_with (first
      | (go_at_call 146;(with_reducible refine(HS.out _ _).mono ?_);rintro e w2 ⟨rfl,rfl⟩)
      | (go_at_call 154;(with_reducible refine(C1.out _).mono ?_);rintro e w1 ⟨rfl,hb⟩;have HB:=Lib.hid ((HW.out _).trans (hb.mono (by simp<;>omega)));clear hb))
     go_ret
     exact⟨by rw [←HR.out];rfl,HB.out⟩
   cases b2
   case false=>
    go_wp2_with (first
     | (go_at_call 146;(with_reducible refine(HS.out _ _).mono ?_);rintro e w2 ⟨rfl,rfl⟩)
     | (go_at_call 154;(with_reducible refine(C1.out _).mono ?_);rintro e w1 ⟨rfl,hb⟩;have HB:=Lib.hid ((HW.out _).trans (hb.mono (by simp<;>omega)));clear hb))
    go_ret
    exact⟨by rw [←HR.out];rfl,HB.out⟩
   cases v8
   all_goals
    go_wp2_with (first
     | (go_at_call 146;(with_reducible refine(HS.out _ _).mono ?_);rintro e w2 ⟨rfl,rfl⟩)
     | (go_at_call 154;(with_reducible refine(C1.out _).mono ?_);rintro e w1 ⟨rfl,hb⟩;have HB:=Lib.hid ((HW.out _).trans (hb.mono (by simp<;>omega)));clear hb))
    go_ret
    exact⟨by rw [←HR.out];rfl,HB.out⟩
def trapBad (n:Int) (t:TrapV):Bool:=decide (t.lo<0) ||decide (t.hi≤t.lo) ||decide (n<t.hi) ||decide (t.tgt<0) ||decide (n≤t.tgt)
def needN (acc:Int) (na:Nat):Int:=if someB acc 8=true then(na:Int) else(na:Int)+1
def codeBad (x:MethV) (na:Nat):Bool:=if x.has=someB x.acc 1024 then true else if x.has=false then false else
 if x.code.length=0∨x.stack<0∨64<x.stack∨x.locals<0∨64<x.locals∨x.locals<needN x.acc na then true else x.traps.any (trapBad x.code.length)
theorem trap_cells {w:World} {ok:Nat→Prop} {l:List TrapV} {A:Option Addr} {cap:Nat} (h:SlAt w ok 4 l.length (l.flatMap TrapV.cells) (.slice A l.length cap)): ∀(k:Nat) (x:TrapV),l[k]?=some x→ ∃b off,A=some ⟨b,off,none⟩∧b<w.heap.size∧
  w.cell? ⟨b,off+k*4,none⟩=some (.int .i64 x.lo)∧w.cell? ⟨b,off+k*4+1,none⟩=some (.int .i64 x.hi)∧w.cell? ⟨b,off+k*4+2,none⟩=some (.int .i64 x.tgt)∧w.cell? ⟨b,off+k*4+3,none⟩=some (.int .i64 x.kind):=by
 intro k x hk
 obtain⟨A',cap',e,_,_,_,h5⟩:=h
 injection e with e1 _ _
 subst e1
 obtain⟨b,off,e,hlt,_,hc⟩:=h5 (by have:=(List.getElem?_eq_some_iff.1 hk).1;omega)
 have hr:=rows_at TrapV.cells 4 (fun _=>rfl) l k x hk
 exact⟨b,off,e,hlt,hc _ _ ((hr 0 (by omega)).trans rfl),hc _ _ ((hr 1 (by omega)).trans rfl),hc _ _ ((hr 2 (by omega)).trans rfl),hc _ _ ((hr 3 (by omega)).trans rfl)⟩
theorem code_chk (x:MethV) (cv tv:Value) (ok:Nat→Prop) (args:ByteArray) (w:World) (h:MethAt w ok x cv tv) (hs:args.size≤65536):
  Calls Tryz.prog 167 #[methV x cv tv, .string args] w fun e w'=>e= .returned (.bool (codeBad x args.size))∧Below w.heap.size w w':=by
 obtain⟨Ac,kc,rfl,_,zc⟩:=sl_len h.hcode
 obtain⟨At,kt,rfl,_,zt⟩:=sl_len h.htraps
 obtain⟨acc,nm,ds,has,stack,locals,code,traps⟩:=x
 have HT:=Lib.hid h.htraps
 simp only at HT zc zt
 clear h
 obtain⟨R,hR⟩: ∃R,codeBad ⟨acc,nm,ds,has,stack,locals,code,traps⟩ args.size=R:=⟨_,rfl⟩
 rw [hR]
 obtain⟨n,hn⟩: ∃n,code.length=n:=⟨_,rfl⟩
 obtain⟨ab,h1024⟩: ∃v,someB acc 1024=v:=⟨_,rfl⟩
 obtain⟨st,h8⟩: ∃v,someB acc 8=v:=⟨_,rfl⟩
 obtain⟨b1,hb1⟩: ∃v,((n:Int)==0)=v:=⟨_,rfl⟩
 obtain⟨b2,hb2⟩: ∃v,decide (stack<0)=v:=⟨_,rfl⟩
 obtain⟨b3,hb3⟩: ∃v,decide (64<stack)=v:=⟨_,rfl⟩
 obtain⟨b4,hb4⟩: ∃v,decide (locals<0)=v:=⟨_,rfl⟩
 obtain⟨b5,hb5⟩: ∃v,decide (64<locals)=v:=⟨_,rfl⟩
 obtain⟨b6,hb6⟩: ∃v,decide (locals<if st=true then(args.size:Int) else(args.size:Int)+1)=v:=⟨_,rfl⟩
 have HE:=Lib.hid (show R=if has=ab then true else if has=false then false else if(b1||b2||b3||b4||b5||b6)=true then true else traps.any (trapBad n) by
  have eb:(n=0∨stack<0∨64<stack∨locals<0∨64<locals∨locals<needN acc args.size)=((b1||b2||b3||b4||b5||b6)=true):=by
   rw [←hb1, ←hb2, ←hb3, ←hb4, ←hb5, ←hb6,show needN acc args.size=if st=true then(args.size:Int) else(args.size:Int)+1 by unfold needN;rw [h8]]
   simp only [Bool.or_eq_true,decide_eq_true_eq,beq_iff_eq,or_assoc,Int.natCast_eq_zero]
  rw [←hR]
  unfold codeBad
  simp only [h1024,hn,eb])
 have HS:=Lib.hid (fun(f:Int) W=>some_any acc f W)
 have HW:=Lib.hid ((Below.refl w.heap.size w).alloc (Nat.le_refl _) (.cells #[.int .i64 acc, .int .i64 nm, .int .i64 ds, .bool has, .int .i64 stack, .int .i64 locals, .slice Ac code.length kc, .slice At traps.length kt] 172))
 rw [hn] at HW zc⊢
 clear hR hn
 unfold methV
 dsimp only
 cases has
 case false=>
  cases ab
  all_goals
   go_enter Tryz.func167,Tryz.ntmps167
   go_wp2_with (go_at_call 146;(with_reducible refine(HS.out _ _).mono ?_);rintro e w2 ⟨rfl,rfl⟩)
   go_ret
   exact⟨by rw [HE.out];rfl,HW.out⟩
 cases ab
 case true=>
  go_enter Tryz.func167,Tryz.ntmps167
  go_wp2_with (go_at_call 146;(with_reducible refine(HS.out _ _).mono ?_);rintro e w2 ⟨rfl,rfl⟩)
  go_ret
  exact⟨by rw [HE.out];rfl,HW.out⟩
 cases st
 all_goals
  simp only [Bool.false_eq_true,if_true,if_false,reduceIte] at hb6
  cases b1
  case true=>
   go_enter Tryz.func167,Tryz.ntmps167
   go_wp2_with (go_at_call 146;(with_reducible refine(HS.out _ _).mono ?_);rintro e w2 ⟨rfl,rfl⟩)
   go_ret
   exact⟨by rw [HE.out];rfl,HW.out⟩
  cases b2
  case true=>
   go_enter Tryz.func167,Tryz.ntmps167
   go_wp2_with (go_at_call 146;(with_reducible refine(HS.out _ _).mono ?_);rintro e w2 ⟨rfl,rfl⟩)
   go_ret
   exact⟨by rw [HE.out];rfl,HW.out⟩
  cases b3
  case true=>
   go_enter Tryz.func167,Tryz.ntmps167
   go_wp2_with (go_at_call 146;(with_reducible refine(HS.out _ _).mono ?_);rintro e w2 ⟨rfl,rfl⟩)
   go_ret
   exact⟨by rw [HE.out];rfl,HW.out⟩
  cases b4
  case true=>
   go_enter Tryz.func167,Tryz.ntmps167
   go_wp2_with (go_at_call 146;(with_reducible refine(HS.out _ _).mono ?_);rintro e w2 ⟨rfl,rfl⟩)
   go_ret
   exact⟨by rw [HE.out];rfl,HW.out⟩
  cases b5
  case true=>
   go_enter Tryz.func167,Tryz.ntmps167
   go_wp2_with (go_at_call 146;(with_reducible refine(HS.out _ _).mono ?_);rintro e w2 ⟨rfl,rfl⟩)
   go_ret
   exact⟨by rw [HE.out];rfl,HW.out⟩
  cases b6
  case true=>
   go_enter Tryz.func167,Tryz.ntmps167
   go_wp2_with (go_at_call 146;(with_reducible refine(HS.out _ _).mono ?_);rintro e w2 ⟨rfl,rfl⟩)
   go_ret
   exact⟨by rw [HE.out];rfl,HW.out⟩
  replace HE:=Lib.hid (show R=traps.any (trapBad n) from HE.out)
  go_enter Tryz.func167,Tryz.ntmps167
  go_wp2_with (go_at_call 146;(with_reducible refine(HS.out _ _).mono ?_);rintro e w2 ⟨rfl,rfl⟩)
  clear hb1 hb2 hb3 hb4 hb5 hb6
  go_loopw [62] (fun i wr=> ∃k:Nat,k≤traps.length∧i= .int .i64 k∧Hid (Below w.heap.size w wr)∧Hid (R=(traps.drop k).any (trapBad n))) (fun i _=>traps.length - (RowKit.intOf i).toNat)
  case atStart=>exact⟨0,by omega,rfl,HW,Lib.hid (by rw [HE.out,List.drop_zero])⟩
  case round=>
   obtain⟨k,hk,rfl,HBr,HEr⟩:=hrel
   by_cases hlt:k<traps.length
   ·obtain⟨t,ht⟩: ∃t,traps[k]?=some t:=⟨_,List.getElem?_eq_getElem hlt⟩
    obtain⟨b,off,hAt,hbl,p0,p1,p2,p3⟩:=trap_cells (HT.out.keep (Kept.of_below HBr.out)) k t ht
    subst hAt
    obtain⟨d0,hd0⟩: ∃v,decide (t.lo<0)=v:=⟨_,rfl⟩
    obtain⟨d1,hd1⟩: ∃v,decide (t.hi≤t.lo)=v:=⟨_,rfl⟩
    obtain⟨d2,hd2⟩: ∃v,decide ((n:Int) <t.hi)=v:=⟨_,rfl⟩
    obtain⟨d3,hd3⟩: ∃v,decide (t.tgt<0)=v:=⟨_,rfl⟩
    obtain⟨d4,hd4⟩: ∃v,decide ((n:Int)≤t.tgt)=v:=⟨_,rfl⟩
    have HD:=Lib.hid (show R=((d0||d1||d2||d3||d4) || (traps.drop (k+1)).any (trapBad n)) by
     rw [HEr.out,List.drop_eq_getElem_cons hlt,(List.getElem?_eq_some_iff.1 ht).2,List.any_cons,show trapBad n t=(d0||d1||d2||d3||d4) by unfold trapBad;rw [hd0,hd1,hd2,hd3,hd4]])
    have HB2:=Lib.hid (HBr.out.alloc HBr.out.size (.cells #[.int .i64 t.lo, .int .i64 t.hi, .int .i64 t.tgt, .int .i64 t.kind] 213))
    clear ht HEr HE
    cases d0
    case true=>
     go_wp2_with fail
     go_ret
     exact⟨by rw [HD.out];rfl,HB2.out⟩
    cases d1
    case true=>
     go_wp2_with fail
     go_ret
     exact⟨by rw [HD.out];rfl,HB2.out⟩
    cases d2
    case true=>
     go_wp2_with fail
     go_ret
     exact⟨by rw [HD.out];rfl,HB2.out⟩
    cases d3
    case true=>
     go_wp2_with fail
     go_ret
     exact⟨by rw [HD.out];rfl,HB2.out⟩
    cases d4
    case true=>
     go_wp2_with fail
     go_ret
     exact⟨by rw [HD.out];rfl,HB2.out⟩
    go_wp2_with fail
    go_roundw
    case rel=>exact⟨k+1,by omega,by go_num,HB2,HD⟩
    case measure=>simp [RowKit.intOf];omega
   ·have HY:=Lib.hid (show R=false by rw [HEr.out,List.drop_of_length_le (by omega)];rfl)
    go_wp2_with fail
    go_ret
    exact⟨by rw [HY.out];rfl,HBr.out⟩
theorem meth4_any (x:MethV) (cv tv:Value) (hcv:cv.oneCell'=true) (htv:tv.oneCell'=true) (bk p1:Nat) (nm:ByteArray) (c:ClassV) (pool ifs flds mths:Value) (w:World) (h1:Bx w bk [.int .i64 c.minor, .int .i64 c.major,pool, .int .i64 c.acc, .int .i64 c.this, .int .i64 c.sup,ifs,flds,mths] 248) (h2:CapB w p1 (.string nm)) (l2:p1<w.heap.size):
  Calls Tryz.prog 162 #[methV x cv tv, .pointer (some ⟨bk,0,none⟩), .pointer (some ⟨p1,0,none⟩)] w fun e w'=>e= .returned (.bool (mflags c.acc x.acc nm.data.toList))∧Below w.heap.size w w':=by
 have HW:=Lib.hid ((Below.refl w.heap.size w).alloc (Nat.le_refl _) (.cells #[.int .i64 x.acc, .int .i64 x.name, .int .i64 x.desc, .bool x.has, .int .i64 x.stack, .int .i64 x.locals,cv,tv] 172))
 have HX:=Lib.hid (h1.below HW.out h1.lt)
 have M0:=Lib.hid (bx_new w [.int .i64 x.acc, .int .i64 x.name, .int .i64 x.desc, .bool x.has, .int .i64 x.stack, .int .i64 x.locals,cv,tv] 172)
 have k2:=h2.alloc l2 (.cells #[.int .i64 x.acc, .int .i64 x.name, .int .i64 x.desc, .bool x.has, .int .i64 x.stack, .int .i64 x.locals,cv,tv] 172)
 have C:=Lib.hid (fun W=>mflags_any x cv tv c pool ifs flds mths nm W)
 clear h1 h2
 rw [bookV_open] at C
 unfold methV at C⊢
 go_enter Tryz.func162,Tryz.ntmps162
 go_wp2_with (first
  | (refine wpList_load_row rfl _ _ rfl bk rfl _ _ _ _ HX.out Tryz.underlying248 rfl (by kernel_rfl) ?_)
  | (refine wpList_load_row rfl _ _ rfl w.heap.size rfl _ _ _ _ M0.out Tryz.underlying172 rfl (by kernel_rfl) ?_)
  | (go_at_call 163;refine(C.out _).mono ?_;rintro e w1 ⟨rfl,hb⟩;have HB:=Lib.hid (HW.out.trans (hb.mono (by simp)));clear hb))
 go_ret
 exact⟨rfl,HB.out⟩
theorem meth7_any (x:MethV) (cv tv:Value) (ok:Nat→Prop) (p1:Nat) (args:ByteArray) (w:World) (h:MethAt w ok x cv tv) (h2:CapB w p1 (.string args)) (l2:p1<w.heap.size) (hs:args.size≤65536):
  Calls Tryz.prog 166 #[methV x cv tv, .pointer (some ⟨p1,0,none⟩)] w fun e w'=>e= .returned (.bool (codeBad x args.size))∧Below w.heap.size w w':=by
 have HW:=Lib.hid ((Below.refl w.heap.size w).alloc (Nat.le_refl _) (.cells #[.int .i64 x.acc, .int .i64 x.name, .int .i64 x.desc, .bool x.has, .int .i64 x.stack, .int .i64 x.locals,cv,tv] 172))
 have M0:=Lib.hid (bx_new w [.int .i64 x.acc, .int .i64 x.name, .int .i64 x.desc, .bool x.has, .int .i64 x.stack, .int .i64 x.locals,cv,tv] 172)
 have k2:=h2.alloc l2 (.cells #[.int .i64 x.acc, .int .i64 x.name, .int .i64 x.desc, .bool x.has, .int .i64 x.stack, .int .i64 x.locals,cv,tv] 172)
 have hA:=h.hcode
 have hB:=h.htraps
 have C:=Lib.hid (code_chk x cv tv ok args (w.alloc (.cells #[.int .i64 x.acc, .int .i64 x.name, .int .i64 x.desc, .bool x.has, .int .i64 x.stack, .int .i64 x.locals,cv,tv] 172)) ⟨h.hcode.keep (Kept.of_below HW.out),h.htraps.keep (Kept.of_below HW.out)⟩ hs)
 obtain⟨Ac,kc,rfl,_,zc⟩:=sl_len h.hcode
 obtain⟨At,kt,rfl,_,zt⟩:=sl_len h.htraps
 clear h h2 hA hB
 unfold methV at C⊢
 go_enter Tryz.func166,Tryz.ntmps166
 go_wp2_with (first
  | (refine wpList_load_row rfl _ _ rfl w.heap.size rfl _ _ _ _ M0.out Tryz.underlying172 rfl (by kernel_rfl) ?_)
  | (go_at_call 167;refine C.out.mono ?_;rintro e w1 ⟨rfl,hb⟩;have HB:=Lib.hid (HW.out.trans (hb.mono (by simp)));clear hb))
 go_ret
 exact⟨rfl,HB.out⟩
def trapNo (pool:List Ko) (t:TrapV):Bool:=((t.kind:Int) !=0)&& !(kindAt pool t.kind 7).isSome
def trapsNo (pool:List Ko) (x:MethV):Bool:=x.has&&x.traps.any (trapNo pool)
theorem meth8_any (x:MethV) (cv tv:Value) (bk:Nat) (c:ClassV) (A:Option Addr) (cap:Nat) (ifs flds mths:Value) (ok ok2:Nat→Prop) (w:World) (h:BookOk w ok c A cap ifs flds mths) (h1:Bx w bk [.int .i64 c.minor, .int .i64 c.major, .slice A c.pool.length cap, .int .i64 c.acc, .int .i64 c.this, .int .i64 c.sup,ifs,flds,mths] 248) (hM:MethAt w ok2 x cv tv) (hf: ∀t∈x.traps,Fine t.kind):
  Calls Tryz.prog 168 #[methV x cv tv, .pointer (some ⟨bk,0,none⟩)] w fun e w'=>e= .returned (.bool (trapsNo c.pool x))∧Below w.heap.size w w':=by
 obtain⟨Ac,kc,rfl,_,zc⟩:=sl_len hM.hcode
 obtain⟨At,kt,rfl,_,zt⟩:=sl_len hM.htraps
 have HW:=Lib.hid ((Below.refl w.heap.size w).alloc (Nat.le_refl _) (.cells #[.int .i64 x.acc, .int .i64 x.name, .int .i64 x.desc, .bool x.has, .int .i64 x.stack, .int .i64 x.locals, .slice Ac x.code.length kc, .slice At x.traps.length kt] 172))
 have HX:=Lib.hid (h1.below HW.out h1.lt)
 have M0:=Lib.hid (bx_new w [.int .i64 x.acc, .int .i64 x.name, .int .i64 x.desc, .bool x.has, .int .i64 x.stack, .int .i64 x.locals, .slice Ac x.code.length kc, .slice At x.traps.length kt] 172)
 have HT:=Lib.hid (hM.htraps.keep (Kept.of_below HW.out))
 have H0:=Lib.hid (h.below HW.out)
 have HF:=Lib.hid hf
 have hz0:(w.alloc (.cells #[.int .i64 x.acc, .int .i64 x.name, .int .i64 x.desc, .bool x.has, .int .i64 x.stack, .int .i64 x.locals, .slice Ac x.code.length kc, .slice At x.traps.length kt] 172)).heap.size=w.heap.size+1:=by simp
 have hbk:=h1.lt
 clear h h1 hM hf
 obtain⟨R,hR⟩: ∃R,trapsNo c.pool x=R:=⟨_,rfl⟩
 rw [hR]
 have HR:=Lib.hid hR
 clear hR
 unfold methV
 go_enter Tryz.func168,Tryz.ntmps168
 go_wp2_with fail
 generalize w.alloc (.cells #[.int .i64 x.acc, .int .i64 x.name, .int .i64 x.desc, .bool x.has, .int .i64 x.stack, .int .i64 x.locals, .slice Ac x.code.length kc, .slice At x.traps.length kt] 172)=w0 at*
 go_loopw [11] (fun i wr=> ∃k:Nat,k≤x.traps.length∧i= .int .i64 k∧w.heap.size+1≤wr.heap.size∧Hid (Below w0.heap.size w0 wr)∧Hid (R=(x.has&&(x.traps.drop k).any (trapNo c.pool)))) (fun i _=>x.traps.length - (RowKit.intOf i).toNat)
 case atStart=>exact⟨0,by omega,rfl,by omega,Lib.hid (Below.refl _ _),Lib.hid (by rw [←HR.out,List.drop_zero];rfl)⟩
 case round=>
  obtain⟨wr1,hwr⟩: ∃W,W=wr:=⟨_,rfl⟩
  subst hwr
  obtain⟨k,hk,rfl,hzr,HBr,HEr⟩:=hrel
  by_cases hlt:k<x.traps.length
  ·obtain⟨t,ht⟩: ∃t,x.traps[k]?=some t:=⟨_,List.getElem?_eq_getElem hlt⟩
   obtain⟨b,off,hAt,hbl,p0,p1,p2,p3⟩:=trap_cells (HT.out.keep (Kept.of_below HBr.out)) k t ht
   subst hAt
   have HFT:=Lib.hid (HF.out t (List.mem_of_getElem? ht))
   obtain⟨has,hhas⟩: ∃v,x.has=v:=⟨_,rfl⟩
   have HDR:=Lib.hid (show R=(has&&(trapNo c.pool t|| (x.traps.drop (k+1)).any (trapNo c.pool))) by
    rw [HEr.out,hhas,List.drop_eq_getElem_cons hlt,List.any_cons]
    congr 2
    rw [List.getElem?_eq_getElem hlt] at ht
    injection ht with ht
    rw [ht])
   have HDS:=Lib.hid (show(x.has&&(x.traps.drop (k+1)).any (trapNo c.pool))=(has&&(x.traps.drop (k+1)).any (trapNo c.pool)) by rw [hhas])
   have Mr:=M0.out.below HBr.out (by omega)
   rw [hhas] at Mr
   have MR:=Lib.hid Mr
   have HXr:=Lib.hid ((HX.out.below HBr.out (by omega)).below ((Below.refl wr1.heap.size wr1).alloc (Nat.le_refl _) (.cells #[.int .i64 t.lo, .int .i64 t.hi, .int .i64 t.tgt, .int .i64 t.kind] 213)) (by omega))
   have H1:=Lib.hid ((H0.out.below HBr.out).below ((Below.refl wr1.heap.size wr1).alloc (Nat.le_refl _) (.cells #[.int .i64 t.lo, .int .i64 t.hi, .int .i64 t.tgt, .int .i64 t.kind] 213)))
   have T0:=Lib.hid (bx_new wr1 [.int .i64 t.lo, .int .i64 t.hi, .int .i64 t.tgt, .int .i64 t.kind] 213)
   have hzt:(wr1.alloc (.cells #[.int .i64 t.lo, .int .i64 t.hi, .int .i64 t.tgt, .int .i64 t.kind] 213)).heap.size=wr1.heap.size+1:=by simp
   obtain⟨x1,x2,x3,x4,x5,x6,x7,x8,x9,x10,x11,x12⟩:=far b wr1.heap.size hbl
   have HB1:=Lib.hid (HBr.out.alloc HBr.out.size (.cells #[.int .i64 t.lo, .int .i64 t.hi, .int .i64 t.tgt, .int .i64 t.kind] 213))
   clear ht HEr Mr hhas HR
   go_wp2_with (first
    | (refine wpList_load_row rfl _ _ rfl bk rfl _ _ _ _ HXr.out Tryz.underlying248 rfl (by kernel_rfl) ?_)
    | (go_at_call 114;refine stop_here ?_))
   refine go_on ?_
   clear p0 p1 p2 p3
   refine(at_book c A cap ifs flds mths t.kind 7 ok _ H1.out.hp H1.out.h1 H1.out.h2 H1.out.h3 HFT.out.2 HFT.out.1).mono ?_
   obtain⟨b1,hb1⟩: ∃v,((t.kind:Int) !=0)=v:=⟨_,rfl⟩
   have HB1F:=Lib.hid hb1
   rcases hk7:kindAt c.pool t.kind 7 with _|ko
   ·have HQ:=Lib.hid (show R=(has&&((b1&&true) || (x.traps.drop (k+1)).any (trapNo c.pool))) by rw [HDR.out];unfold trapNo;rw [hk7,HB1F.out];rfl)
    clear HDR hk7 HB1F
    rintro e w1 ⟨rfl,hb⟩
    simp only [kindV,koV,Option.getD_none,Option.getD_some,Option.isSome_none,Option.isSome_some,koZero]
    have hz1:=hb.size
    have hba:=hb.trans ((Below.refl w1.heap.size w1).alloc (Nat.le_refl _) (.cells #[.int .i64 0, .string ⟨#[]⟩, .int .i64 0, .int .i64 0, .int .i64 0] 81) |>.mono hb.size)
    have HB3:=Lib.hid (HB1.out.trans (hba.mono (Nat.le_trans HBr.out.size (by omega))))
    have m3:=(MR.out.below (((Below.refl wr1.heap.size wr1).alloc (Nat.le_refl _) (.cells #[.int .i64 t.lo, .int .i64 t.hi, .int .i64 t.tgt, .int .i64 t.kind] 213)).trans (hba.mono (by omega))) (by omega)).cell 3 rfl
    have t3:=(T0.out.below hba (by omega)).cell 3 rfl
    have hz3:wr1.heap.size+2≤(w1.alloc (.cells #[.int .i64 0, .string ⟨#[]⟩, .int .i64 0, .int .i64 0, .int .i64 0] 81)).heap.size:=by simp;omega
    clear hba
    clear hb
    cases has<;>cases b1
    ·have HY:=Lib.hid (show R=(x.has&&(x.traps.drop (k+1)).any (trapNo c.pool)) by rw [HQ.out,HDS.out];rfl)
     clear HQ HDS
     go_wp2_with fail
     go_roundw
     case rel=>exact⟨k+1,by omega,by go_num,by omega,HB3,HY⟩
     case measure=>simp [RowKit.intOf];omega
    ·have HY:=Lib.hid (show R=(x.has&&(x.traps.drop (k+1)).any (trapNo c.pool)) by rw [HQ.out,HDS.out];rfl)
     clear HQ HDS
     go_wp2_with fail
     go_roundw
     case rel=>exact⟨k+1,by omega,by go_num,by omega,HB3,HY⟩
     case measure=>simp [RowKit.intOf];omega
    ·have HY:=Lib.hid (show R=(x.has&&(x.traps.drop (k+1)).any (trapNo c.pool)) by rw [HQ.out,HDS.out];rfl)
     clear HQ HDS
     go_wp2_with fail
     go_roundw
     case rel=>exact⟨k+1,by omega,by go_num,by omega,HB3,HY⟩
     case measure=>simp [RowKit.intOf];omega
    ·have HY:=Lib.hid (show R=true by rw [HQ.out];rfl)
     clear HQ HDS
     go_wp2_with fail
     go_ret
     exact⟨by rw [HY.out];rfl,HW.out.trans (HB3.out.mono (by omega))⟩
   ·have HQ:=Lib.hid (show R=(has&&((b1&&false) || (x.traps.drop (k+1)).any (trapNo c.pool))) by rw [HDR.out];unfold trapNo;rw [hk7,HB1F.out];rfl)
    clear HDR hk7 HB1F
    rintro e w1 ⟨rfl,hb⟩
    simp only [kindV,koV,Option.getD_none,Option.getD_some,Option.isSome_none,Option.isSome_some,koZero]
    have hz1:=hb.size
    have hba:=hb.trans ((Below.refl w1.heap.size w1).alloc (Nat.le_refl _) (.cells #[.int .i64 ko.tag, .string ko.text, .int .i64 ko.num, .int .i64 ko.a, .int .i64 ko.b] 81) |>.mono hb.size)
    have HB3:=Lib.hid (HB1.out.trans (hba.mono (Nat.le_trans HBr.out.size (by omega))))
    have m3:=(MR.out.below (((Below.refl wr1.heap.size wr1).alloc (Nat.le_refl _) (.cells #[.int .i64 t.lo, .int .i64 t.hi, .int .i64 t.tgt, .int .i64 t.kind] 213)).trans (hba.mono (by omega))) (by omega)).cell 3 rfl
    have t3:=(T0.out.below hba (by omega)).cell 3 rfl
    have hz3:wr1.heap.size+2≤(w1.alloc (.cells #[.int .i64 ko.tag, .string ko.text, .int .i64 ko.num, .int .i64 ko.a, .int .i64 ko.b] 81)).heap.size:=by simp;omega
    clear hba
    clear hb
    cases has<;>cases b1
    ·have HY:=Lib.hid (show R=(x.has&&(x.traps.drop (k+1)).any (trapNo c.pool)) by rw [HQ.out,HDS.out];rfl)
     clear HQ HDS
     go_wp2_with fail
     go_roundw
     case rel=>exact⟨k+1,by omega,by go_num,by omega,HB3,HY⟩
     case measure=>simp [RowKit.intOf];omega
    ·have HY:=Lib.hid (show R=(x.has&&(x.traps.drop (k+1)).any (trapNo c.pool)) by rw [HQ.out,HDS.out];rfl)
     clear HQ HDS
     go_wp2_with fail
     go_roundw
     case rel=>exact⟨k+1,by omega,by go_num,by omega,HB3,HY⟩
     case measure=>simp [RowKit.intOf];omega
    ·have HY:=Lib.hid (show R=(x.has&&(x.traps.drop (k+1)).any (trapNo c.pool)) by rw [HQ.out,HDS.out];rfl)
     clear HQ HDS
     go_wp2_with fail
     go_roundw
     case rel=>exact⟨k+1,by omega,by go_num,by omega,HB3,HY⟩
     case measure=>simp [RowKit.intOf];omega
    ·have HY:=Lib.hid (show R=(x.has&&(x.traps.drop (k+1)).any (trapNo c.pool)) by rw [HQ.out,HDS.out];rfl)
     clear HQ HDS
     go_wp2_with fail
     go_roundw
     case rel=>exact⟨k+1,by omega,by go_num,by omega,HB3,HY⟩
     case measure=>simp [RowKit.intOf];omega
  ·have HY:=Lib.hid (show R=false by rw [HEr.out,List.drop_of_length_le (by omega)];simp)
   go_wp2_with fail
   go_ret
   exact⟨by rw [HY.out];rfl,HW.out.trans (HBr.out.mono (by omega))⟩
def mthRules (bk p5 p7 p8 p9 p10 p11 p12 p13:Nat):List Value:= [.int .i64 20, .func (.func 159) #[] #[.pointer (some ⟨p8,0,none⟩), .pointer (some ⟨p10,0,none⟩)], .int .i64 21, .func (.func 160) #[] #[.pointer (some ⟨p7,0,none⟩)], .int .i64 22, .func (.func 161) #[] #[.pointer (some ⟨p13,0,none⟩)], .int .i64 23, .func (.func 162) #[] #[.pointer (some ⟨bk,0,none⟩), .pointer (some ⟨p7,0,none⟩)], .int .i64 22, .func (.func 164) #[] #[.pointer (some ⟨p7,0,none⟩), .pointer (some ⟨p12,0,none⟩), .pointer (some ⟨p9,0,none⟩)], .int .i64 24, .func (.func 165) #[] #[.pointer (some ⟨p5,0,none⟩), .pointer (some ⟨p7,0,none⟩), .pointer (some ⟨p9,0,none⟩)], .int .i64 25, .func (.func 166) #[] #[.pointer (some ⟨p11,0,none⟩)], .int .i64 20, .func (.func 168) #[] #[.pointer (some ⟨bk,0,none⟩)]]
def mthRes (b1 b2 b3 b4 b5 b6 b7 b8:Bool):Int:=if b1 then 20 else if b2 then 21 else if b3 then 22 else if b4 then 23 else if b5 then 22 else if b6 then 24 else if b7 then 25 else if b8 then 20 else 0
theorem MethAt.seen {w w':World} {b:Nat} {seen:List NmD} {ok:Nat→Prop} {x:MethV} {cv tv:Value} (h:MethAt w ok x cv tv) (hm:SeenM w b seen) (hb:But w.heap.size [b] w w'):MethAt w' ok x cv tv:=⟨h.hcode.seen hm hb,h.htraps.seen hm hb⟩
structure MthW (c:ClassV) (A:Option Addr) (cap:Nat) (ifs flds mths:Value) (ok ok2:Nat→Prop) (g bk p5 p7 p8 p9 p10 p11 p12 p13 b:Nat) (nm d args ret:ByteArray) (one two is:Bool) (x:MethV) (cv tv:Value) (seen:List NmD) (fb:Nat) (W:World):Prop where
 gg:Bx W g (mthRules bk p5 p7 p8 p9 p10 p11 p12 p13) 290
 kk:Bx W bk [.int .i64 c.minor, .int .i64 c.major, .slice A c.pool.length cap, .int .i64 c.acc, .int .i64 c.this, .int .i64 c.sup,ifs,flds,mths] 248
 xx:Bx W fb [.int .i64 x.acc, .int .i64 x.name, .int .i64 x.desc, .bool x.has, .int .i64 x.stack, .int .i64 x.locals,cv,tv] 172
 c5:CapB W p5 (.map (some b))
 c7:CapB W p7 (.string nm)
 c8:CapB W p8 (.bool one)
 c9:CapB W p9 (.string d)
 c10:CapB W p10 (.bool two)
 c11:CapB W p11 (.string args)
 c12:CapB W p12 (.string ret)
 c13:CapB W p13 (.bool is)
 bo:BookOk W ok c A cap ifs flds mths
 ma:MethAt W ok2 x cv tv
 sm:SeenM W b seen
theorem MthW.below {c:ClassV} {A:Option Addr} {cap:Nat} {ifs flds mths:Value} {ok ok2:Nat→Prop} {g bk p5 p7 p8 p9 p10 p11 p12 p13 b:Nat} {nm d args ret:ByteArray} {one two is:Bool} {x:MethV} {cv tv:Value} {seen:List NmD} {fb:Nat} {W W':World} (h:MthW c A cap ifs flds mths ok ok2 g bk p5 p7 p8 p9 p10 p11 p12 p13 b nm d args ret one two is x cv tv seen fb W) (hb:Below W.heap.size W W'):MthW c A cap ifs flds mths ok ok2 g bk p5 p7 p8 p9 p10 p11 p12 p13 b nm d args ret one two is x cv tv seen fb W':=
 ⟨h.gg.below hb h.gg.lt,h.kk.below hb h.kk.lt,h.xx.below hb h.xx.lt,h.c5.below hb,h.c7.below hb,h.c8.below hb,h.c9.below hb,h.c10.below hb,h.c11.below hb,h.c12.below hb,h.c13.below hb,h.bo.below hb,⟨h.ma.hcode.keep (Kept.of_below hb),h.ma.htraps.keep (Kept.of_below hb)⟩,h.sm.below hb⟩
theorem MthW.seen {c:ClassV} {A:Option Addr} {cap:Nat} {ifs flds mths:Value} {ok ok2:Nat→Prop} {g bk p5 p7 p8 p9 p10 p11 p12 p13 b:Nat} {nm d args ret:ByteArray} {one two is:Bool} {x:MethV} {cv tv:Value} {seen seen':List NmD} {fb:Nat} {W W':World} (h:MthW c A cap ifs flds mths ok ok2 g bk p5 p7 p8 p9 p10 p11 p12 p13 b nm d args ret one two is x cv tv seen fb W) (hb:But W.heap.size [b] W W') (hs:SeenM W' b seen'):MthW c A cap ifs flds mths ok ok2 g bk p5 p7 p8 p9 p10 p11 p12 p13 b nm d args ret one two is x cv tv seen' fb W':=
 ⟨h.gg.but hb (ne_one (h.sm.apart (h.gg.cell 0 rfl))),h.kk.but hb (ne_one (h.sm.apart (h.kk.cell 0 rfl))),h.xx.but hb (ne_one (h.sm.apart (h.xx.cell 0 rfl))),h.c5.seen h.sm hb,h.c7.seen h.sm hb,h.c8.seen h.sm hb,h.c9.seen h.sm hb,h.c10.seen h.sm hb,h.c11.seen h.sm hb,h.c12.seen h.sm hb,h.c13.seen h.sm hb,⟨h.bo.hp.seen h.sm hb,h.bo.h1,h.bo.h2,h.bo.h3⟩,h.ma.seen h.sm hb,hs⟩
theorem first_method (c:ClassV) (A:Option Addr) (cap:Nat) (ifs flds mths:Value) (ok ok2:Nat→Prop) (g bk p5 p7 p8 p9 p10 p11 p12 p13 b:Nat) (nm d args ret:ByteArray) (one two is:Bool) (x:MethV) (cv tv:Value) (hcv:cv.oneCell'=true) (htv:tv.oneCell'=true) (seen:List NmD) (w:World) (hF:MthW c A cap ifs flds mths ok ok2 g bk p5 p7 p8 p9 p10 p11 p12 p13 b nm d args ret one two is x cv tv seen w.heap.size (w.alloc (.cells #[.int .i64 x.acc, .int .i64 x.name, .int .i64 x.desc, .bool x.has, .int .i64 x.stack, .int .i64 x.locals,cv,tv] 172))) (hlb:b<w.heap.size) (hs2:nm.size≤65536) (hs3:d.size≤65536) (hs4:args.size≤65536) (hlen:seen.length≤1048576) (hn: ∀t∈x.traps,Fine t.kind):
  Calls Tryz.prog 158 #[methV x cv tv, .slice (some ⟨g,0,none⟩) 8 8] w fun e w'=>
   e= .returned (.int .i64 (mthRes (!one|| !two) (!methodNB nm.data.toList) (!is) (mflags c.acc x.acc nm.data.toList) (mthRet nm.data.toList ret.data.toList d.data.toList) (decide ((nm.data.toList,d.data.toList)∈seen)) (codeBad x args.size) (trapsNo c.pool x)))∧But w.heap.size [b] w w'∧
   SeenM w' b (if(!one|| !two) || !methodNB nm.data.toList|| !is||mflags c.acc x.acc nm.data.toList||mthRet nm.data.toList ret.data.toList d.data.toList then seen else(nm.data.toList,d.data.toList)::seen):=by
 have HB0:=Lib.hid (But.of_below (S:= [b]) ((Below.refl w.heap.size w).alloc (Nat.le_refl _) (.cells #[.int .i64 x.acc, .int .i64 x.name, .int .i64 x.desc, .bool x.has, .int .i64 x.stack, .int .i64 x.locals,cv,tv] 172)))
 have F0:=Lib.hid hF
 have HN:=Lib.hid hn
 have HCV:=Lib.hid hcv
 have HTV:=Lib.hid htv
 obtain⟨v1,e1⟩: ∃v,(!one|| !two)=v:=⟨_,rfl⟩
 obtain⟨v2,e2⟩: ∃v,(!methodNB nm.data.toList)=v:=⟨_,rfl⟩
 obtain⟨v3,e3⟩: ∃v,(!is)=v:=⟨_,rfl⟩
 obtain⟨v4,e4⟩: ∃v,mflags c.acc x.acc nm.data.toList=v:=⟨_,rfl⟩
 obtain⟨v5,e5⟩: ∃v,mthRet nm.data.toList ret.data.toList d.data.toList=v:=⟨_,rfl⟩
 obtain⟨v6,e6⟩: ∃v,decide ((nm.data.toList,d.data.toList)∈seen)=v:=⟨_,rfl⟩
 obtain⟨v7,e7⟩: ∃v,codeBad x args.size=v:=⟨_,rfl⟩
 obtain⟨v8,e8⟩: ∃v,trapsNo c.pool x=v:=⟨_,rfl⟩
 rw [e1,e2,e3,e4,e5,e6,e7,e8]
 have E1:=Lib.hid e1
 have E2:=Lib.hid e2
 have E3:=Lib.hid e3
 have E4:=Lib.hid e4
 have E5:=Lib.hid e5
 have E6:=Lib.hid e6
 have E7:=Lib.hid e7
 have E8:=Lib.hid e8
 clear hF hn hcv htv e1 e2 e3 e4 e5 e6 e7 e8
 have hz0:(w.alloc (.cells #[.int .i64 x.acc, .int .i64 x.name, .int .i64 x.desc, .bool x.has, .int .i64 x.stack, .int .i64 x.locals,cv,tv] 172)).heap.size=w.heap.size+1:=by simp
 unfold methV
 go_enter Tryz.func158,Tryz.ntmps158
 go_wp2_with fail
 refine wp_loop_rounds 9 ?_
 generalize w.alloc (.cells #[.int .i64 x.acc, .int .i64 x.name, .int .i64 x.desc, .bool x.has, .int .i64 x.stack, .int .i64 x.locals,cv,tv] 172)=w0 at*
 clear hz0
 have g0:=F0.out.gg.cell 0 rfl
 have g1:=F0.out.gg.cell 1 rfl
 have hxl:=F0.out.xx.lt
 have G0:=Lib.hid (F0.out.below ((Below.refl w0.heap.size w0).alloc (Nat.le_refl _) (.cells #[.int .i64 20, .func (.func 159) #[] #[.pointer (some ⟨p8,0,none⟩), .pointer (some ⟨p10,0,none⟩)]] 290)))
 have R0:=Lib.hid (bx_new w0 [.int .i64 20, .func (.func 159) #[] #[.pointer (some ⟨p8,0,none⟩), .pointer (some ⟨p10,0,none⟩)]] 290)
 have HC0:=Lib.hid (HB0.out.trans ((But.of_below (S:= [b]) ((Below.refl w0.heap.size w0).alloc (Nat.le_refl _) (.cells #[.int .i64 20, .func (.func 159) #[] #[.pointer (some ⟨p8,0,none⟩), .pointer (some ⟨p10,0,none⟩)]] 290))).mono HB0.out.size (fun _ _ h=>h)))
 have hzr:(w0.alloc (.cells #[.int .i64 20, .func (.func 159) #[] #[.pointer (some ⟨p8,0,none⟩), .pointer (some ⟨p10,0,none⟩)]] 290)).heap.size=w0.heap.size+1:=by simp
 rw [rounds_succ]
 go_wp2_with (first
  | (refine wpList_load_row rfl _ _ rfl w.heap.size rfl _ _ _ _ G0.out.xx Tryz.underlying172 rfl (by kernel_rfl) ?_)
  | (go_at_call 159;refine stop_here ?_))
 refine go_on ?_
 clear g0 g1
 refine(meth1_any x cv tv p8 p10 one two _ G0.out.c8 G0.out.c10 (cells_lt G0.out.c8) (cells_lt G0.out.c10)).mono ?_
 rw [E1.out]
 rintro e w1 ⟨rfl,hb⟩
 have HB1:=Lib.hid (HC0.out.trans ((But.of_below (S:= [b]) hb).mono (by have:=HC0.out.size;omega) (fun _ _ h=>h)))
 have F1:=Lib.hid (G0.out.below hb)
 have r0:=(R0.out.below hb (by omega)).cell 0 rfl
 have hz1:=hb.size
 clear hb
 cases v1 with
 |true=>
  go_wp2_with fail
  go_ret
  exact⟨rfl,HB1.out,F1.out.sm⟩
 |false=>
  go_wp2_with fail
  have g0:=F1.out.gg.cell 2 rfl
  have g1:=F1.out.gg.cell 3 rfl
  have hxl:=F1.out.xx.lt
  have G1:=Lib.hid (F1.out.below ((Below.refl w1.heap.size w1).alloc (Nat.le_refl _) (.cells #[.int .i64 21, .func (.func 160) #[] #[.pointer (some ⟨p7,0,none⟩)]] 290)))
  have R1:=Lib.hid (bx_new w1 [.int .i64 21, .func (.func 160) #[] #[.pointer (some ⟨p7,0,none⟩)]] 290)
  have HC1:=Lib.hid (HB1.out.trans ((But.of_below (S:= [b]) ((Below.refl w1.heap.size w1).alloc (Nat.le_refl _) (.cells #[.int .i64 21, .func (.func 160) #[] #[.pointer (some ⟨p7,0,none⟩)]] 290))).mono HB1.out.size (fun _ _ h=>h)))
  have hzr:(w1.alloc (.cells #[.int .i64 21, .func (.func 160) #[] #[.pointer (some ⟨p7,0,none⟩)]] 290)).heap.size=w1.heap.size+1:=by simp
  rw [rounds_succ]
  go_wp2_with (first
   | (refine wpList_load_row rfl _ _ rfl w.heap.size rfl _ _ _ _ G1.out.xx Tryz.underlying172 rfl (by kernel_rfl) ?_)
   | (go_at_call 160;refine stop_here ?_))
  refine go_on ?_
  clear g0 g1
  refine(meth2_any x cv tv p7 nm _ G1.out.c7 (cells_lt G1.out.c7) hs2).mono ?_
  rw [E2.out]
  rintro e w2 ⟨rfl,hb⟩
  have HB2:=Lib.hid (HC1.out.trans ((But.of_below (S:= [b]) hb).mono (by have:=HC1.out.size;omega) (fun _ _ h=>h)))
  have F2:=Lib.hid (G1.out.below hb)
  have r0:=(R1.out.below hb (by omega)).cell 0 rfl
  have hz2:=hb.size
  clear hb
  cases v2 with
  |true=>
   go_wp2_with fail
   go_ret
   exact⟨rfl,HB2.out,F2.out.sm⟩
  |false=>
   go_wp2_with fail
   have g0:=F2.out.gg.cell 4 rfl
   have g1:=F2.out.gg.cell 5 rfl
   have hxl:=F2.out.xx.lt
   have G2:=Lib.hid (F2.out.below ((Below.refl w2.heap.size w2).alloc (Nat.le_refl _) (.cells #[.int .i64 22, .func (.func 161) #[] #[.pointer (some ⟨p13,0,none⟩)]] 290)))
   have R2:=Lib.hid (bx_new w2 [.int .i64 22, .func (.func 161) #[] #[.pointer (some ⟨p13,0,none⟩)]] 290)
   have HC2:=Lib.hid (HB2.out.trans ((But.of_below (S:= [b]) ((Below.refl w2.heap.size w2).alloc (Nat.le_refl _) (.cells #[.int .i64 22, .func (.func 161) #[] #[.pointer (some ⟨p13,0,none⟩)]] 290))).mono HB2.out.size (fun _ _ h=>h)))
   have hzr:(w2.alloc (.cells #[.int .i64 22, .func (.func 161) #[] #[.pointer (some ⟨p13,0,none⟩)]] 290)).heap.size=w2.heap.size+1:=by simp
   rw [rounds_succ]
   go_wp2_with (first
    | (refine wpList_load_row rfl _ _ rfl w.heap.size rfl _ _ _ _ G2.out.xx Tryz.underlying172 rfl (by kernel_rfl) ?_)
    | (go_at_call 161;refine stop_here ?_))
   refine go_on ?_
   clear g0 g1
   refine(meth3_any x cv tv p13 is _ G2.out.c13 (cells_lt G2.out.c13)).mono ?_
   rw [E3.out]
   rintro e w3 ⟨rfl,hb⟩
   have HB3:=Lib.hid (HC2.out.trans ((But.of_below (S:= [b]) hb).mono (by have:=HC2.out.size;omega) (fun _ _ h=>h)))
   have F3:=Lib.hid (G2.out.below hb)
   have r0:=(R2.out.below hb (by omega)).cell 0 rfl
   have hz3:=hb.size
   clear hb
   cases v3 with
   |true=>
    go_wp2_with fail
    go_ret
    exact⟨rfl,HB3.out,F3.out.sm⟩
   |false=>
    go_wp2_with fail
    have g0:=F3.out.gg.cell 6 rfl
    have g1:=F3.out.gg.cell 7 rfl
    have hxl:=F3.out.xx.lt
    have G3:=Lib.hid (F3.out.below ((Below.refl w3.heap.size w3).alloc (Nat.le_refl _) (.cells #[.int .i64 23, .func (.func 162) #[] #[.pointer (some ⟨bk,0,none⟩), .pointer (some ⟨p7,0,none⟩)]] 290)))
    have R3:=Lib.hid (bx_new w3 [.int .i64 23, .func (.func 162) #[] #[.pointer (some ⟨bk,0,none⟩), .pointer (some ⟨p7,0,none⟩)]] 290)
    have HC3:=Lib.hid (HB3.out.trans ((But.of_below (S:= [b]) ((Below.refl w3.heap.size w3).alloc (Nat.le_refl _) (.cells #[.int .i64 23, .func (.func 162) #[] #[.pointer (some ⟨bk,0,none⟩), .pointer (some ⟨p7,0,none⟩)]] 290))).mono HB3.out.size (fun _ _ h=>h)))
    have hzr:(w3.alloc (.cells #[.int .i64 23, .func (.func 162) #[] #[.pointer (some ⟨bk,0,none⟩), .pointer (some ⟨p7,0,none⟩)]] 290)).heap.size=w3.heap.size+1:=by simp
    rw [rounds_succ]
    go_wp2_with (first
     | (refine wpList_load_row rfl _ _ rfl w.heap.size rfl _ _ _ _ G3.out.xx Tryz.underlying172 rfl (by kernel_rfl) ?_)
     | (go_at_call 162;refine stop_here ?_))
    refine go_on ?_
    clear g0 g1
    refine(meth4_any x cv tv HCV.out HTV.out bk p7 nm c _ ifs flds mths _ G3.out.kk G3.out.c7 (cells_lt G3.out.c7)).mono ?_
    rw [E4.out]
    rintro e w4 ⟨rfl,hb⟩
    have HB4:=Lib.hid (HC3.out.trans ((But.of_below (S:= [b]) hb).mono (by have:=HC3.out.size;omega) (fun _ _ h=>h)))
    have F4:=Lib.hid (G3.out.below hb)
    have r0:=(R3.out.below hb (by omega)).cell 0 rfl
    have hz4:=hb.size
    clear hb
    cases v4 with
    |true=>
     go_wp2_with fail
     go_ret
     exact⟨rfl,HB4.out,F4.out.sm⟩
    |false=>
     go_wp2_with fail
     have g0:=F4.out.gg.cell 8 rfl
     have g1:=F4.out.gg.cell 9 rfl
     have hxl:=F4.out.xx.lt
     have G4:=Lib.hid (F4.out.below ((Below.refl w4.heap.size w4).alloc (Nat.le_refl _) (.cells #[.int .i64 22, .func (.func 164) #[] #[.pointer (some ⟨p7,0,none⟩), .pointer (some ⟨p12,0,none⟩), .pointer (some ⟨p9,0,none⟩)]] 290)))
     have R4:=Lib.hid (bx_new w4 [.int .i64 22, .func (.func 164) #[] #[.pointer (some ⟨p7,0,none⟩), .pointer (some ⟨p12,0,none⟩), .pointer (some ⟨p9,0,none⟩)]] 290)
     have HC4:=Lib.hid (HB4.out.trans ((But.of_below (S:= [b]) ((Below.refl w4.heap.size w4).alloc (Nat.le_refl _) (.cells #[.int .i64 22, .func (.func 164) #[] #[.pointer (some ⟨p7,0,none⟩), .pointer (some ⟨p12,0,none⟩), .pointer (some ⟨p9,0,none⟩)]] 290))).mono HB4.out.size (fun _ _ h=>h)))
     have hzr:(w4.alloc (.cells #[.int .i64 22, .func (.func 164) #[] #[.pointer (some ⟨p7,0,none⟩), .pointer (some ⟨p12,0,none⟩), .pointer (some ⟨p9,0,none⟩)]] 290)).heap.size=w4.heap.size+1:=by simp
     rw [rounds_succ]
     go_wp2_with (first
      | (refine wpList_load_row rfl _ _ rfl w.heap.size rfl _ _ _ _ G4.out.xx Tryz.underlying172 rfl (by kernel_rfl) ?_)
      | (go_at_call 164;refine stop_here ?_))
     refine go_on ?_
     clear g0 g1
     refine(meth5_any x cv tv p7 p12 p9 nm ret d _ G4.out.c7 G4.out.c12 G4.out.c9 (cells_lt G4.out.c7) (cells_lt G4.out.c12) (cells_lt G4.out.c9)).mono ?_
     rw [E5.out]
     rintro e w5 ⟨rfl,hb⟩
     have HB5:=Lib.hid (HC4.out.trans ((But.of_below (S:= [b]) hb).mono (by have:=HC4.out.size;omega) (fun _ _ h=>h)))
     have F5:=Lib.hid (G4.out.below hb)
     have r0:=(R4.out.below hb (by omega)).cell 0 rfl
     have hz5:=hb.size
     clear hb
     cases v5 with
     |true=>
      go_wp2_with fail
      go_ret
      exact⟨rfl,HB5.out,F5.out.sm⟩
     |false=>
      go_wp2_with fail
      have g0:=F5.out.gg.cell 10 rfl
      have g1:=F5.out.gg.cell 11 rfl
      have hxl:=F5.out.xx.lt
      have G5:=Lib.hid (F5.out.below ((Below.refl w5.heap.size w5).alloc (Nat.le_refl _) (.cells #[.int .i64 24, .func (.func 165) #[] #[.pointer (some ⟨p5,0,none⟩), .pointer (some ⟨p7,0,none⟩), .pointer (some ⟨p9,0,none⟩)]] 290)))
      have R5:=Lib.hid (bx_new w5 [.int .i64 24, .func (.func 165) #[] #[.pointer (some ⟨p5,0,none⟩), .pointer (some ⟨p7,0,none⟩), .pointer (some ⟨p9,0,none⟩)]] 290)
      have HC5:=Lib.hid (HB5.out.trans ((But.of_below (S:= [b]) ((Below.refl w5.heap.size w5).alloc (Nat.le_refl _) (.cells #[.int .i64 24, .func (.func 165) #[] #[.pointer (some ⟨p5,0,none⟩), .pointer (some ⟨p7,0,none⟩), .pointer (some ⟨p9,0,none⟩)]] 290))).mono HB5.out.size (fun _ _ h=>h)))
      have hzr:(w5.alloc (.cells #[.int .i64 24, .func (.func 165) #[] #[.pointer (some ⟨p5,0,none⟩), .pointer (some ⟨p7,0,none⟩), .pointer (some ⟨p9,0,none⟩)]] 290)).heap.size=w5.heap.size+1:=by simp
      rw [rounds_succ]
      go_wp2_with (first
       | (refine wpList_load_row rfl _ _ rfl w.heap.size rfl _ _ _ _ G5.out.xx Tryz.underlying172 rfl (by kernel_rfl) ?_)
       | (go_at_call 165;refine stop_here ?_))
      refine go_on ?_
      clear g0 g1
      refine(meth6_any x cv tv p5 p7 p9 b nm d seen _ G5.out.c5 G5.out.c7 G5.out.c9 (cells_lt G5.out.c5) (cells_lt G5.out.c7) (cells_lt G5.out.c9) hs2 hs3 hlen G5.out.sm).mono ?_
      rw [E6.out]
      rintro e w6 ⟨rfl,hb,hsm⟩
      have HB6:=Lib.hid (HC5.out.trans (hb.mono (by have:=HC5.out.size;omega) (fun _ _ h=>h)))
      have F6:=Lib.hid (G5.out.seen hb hsm)
      have r0:=(R5.out.but hb (ne_one (by have:=F5.out.sm.lt;omega))).cell 0 rfl
      have hz6:=hb.size
      clear hb hsm
      cases v6 with
      |true=>
       go_wp2_with fail
       go_ret
       exact⟨rfl,HB6.out,F6.out.sm⟩
      |false=>
       go_wp2_with fail
       have g0:=F6.out.gg.cell 12 rfl
       have g1:=F6.out.gg.cell 13 rfl
       have hxl:=F6.out.xx.lt
       have G6:=Lib.hid (F6.out.below ((Below.refl w6.heap.size w6).alloc (Nat.le_refl _) (.cells #[.int .i64 25, .func (.func 166) #[] #[.pointer (some ⟨p11,0,none⟩)]] 290)))
       have R6:=Lib.hid (bx_new w6 [.int .i64 25, .func (.func 166) #[] #[.pointer (some ⟨p11,0,none⟩)]] 290)
       have HC6:=Lib.hid (HB6.out.trans ((But.of_below (S:= [b]) ((Below.refl w6.heap.size w6).alloc (Nat.le_refl _) (.cells #[.int .i64 25, .func (.func 166) #[] #[.pointer (some ⟨p11,0,none⟩)]] 290))).mono HB6.out.size (fun _ _ h=>h)))
       have hzr:(w6.alloc (.cells #[.int .i64 25, .func (.func 166) #[] #[.pointer (some ⟨p11,0,none⟩)]] 290)).heap.size=w6.heap.size+1:=by simp
       rw [rounds_succ]
       go_wp2_with (first
        | (refine wpList_load_row rfl _ _ rfl w.heap.size rfl _ _ _ _ G6.out.xx Tryz.underlying172 rfl (by kernel_rfl) ?_)
        | (go_at_call 166;refine stop_here ?_))
       refine go_on ?_
       clear g0 g1
       refine(meth7_any x cv tv ok2 p11 args _ G6.out.ma G6.out.c11 (cells_lt G6.out.c11) hs4).mono ?_
       rw [E7.out]
       rintro e w7 ⟨rfl,hb⟩
       have HB7:=Lib.hid (HC6.out.trans ((But.of_below (S:= [b]) hb).mono (by have:=HC6.out.size;omega) (fun _ _ h=>h)))
       have F7:=Lib.hid (G6.out.below hb)
       have r0:=(R6.out.below hb (by omega)).cell 0 rfl
       have hz7:=hb.size
       clear hb
       cases v7 with
       |true=>
        go_wp2_with fail
        go_ret
        exact⟨rfl,HB7.out,F7.out.sm⟩
       |false=>
        go_wp2_with fail
        have g0:=F7.out.gg.cell 14 rfl
        have g1:=F7.out.gg.cell 15 rfl
        have hxl:=F7.out.xx.lt
        have G7:=Lib.hid (F7.out.below ((Below.refl w7.heap.size w7).alloc (Nat.le_refl _) (.cells #[.int .i64 20, .func (.func 168) #[] #[.pointer (some ⟨bk,0,none⟩)]] 290)))
        have R7:=Lib.hid (bx_new w7 [.int .i64 20, .func (.func 168) #[] #[.pointer (some ⟨bk,0,none⟩)]] 290)
        have HC7:=Lib.hid (HB7.out.trans ((But.of_below (S:= [b]) ((Below.refl w7.heap.size w7).alloc (Nat.le_refl _) (.cells #[.int .i64 20, .func (.func 168) #[] #[.pointer (some ⟨bk,0,none⟩)]] 290))).mono HB7.out.size (fun _ _ h=>h)))
        have hzr:(w7.alloc (.cells #[.int .i64 20, .func (.func 168) #[] #[.pointer (some ⟨bk,0,none⟩)]] 290)).heap.size=w7.heap.size+1:=by simp
        rw [rounds_succ]
        go_wp2_with (first
         | (refine wpList_load_row rfl _ _ rfl w.heap.size rfl _ _ _ _ G7.out.xx Tryz.underlying172 rfl (by kernel_rfl) ?_)
         | (go_at_call 168;refine stop_here ?_))
        refine go_on ?_
        clear g0 g1
        refine(meth8_any x cv tv bk c A cap ifs flds mths ok ok2 _ G7.out.bo G7.out.kk G7.out.ma HN.out).mono ?_
        rw [E8.out]
        rintro e w8 ⟨rfl,hb⟩
        have HB8:=Lib.hid (HC7.out.trans ((But.of_below (S:= [b]) hb).mono (by have:=HC7.out.size;omega) (fun _ _ h=>h)))
        have F8:=Lib.hid (G7.out.below hb)
        have r0:=(R7.out.below hb (by omega)).cell 0 rfl
        have hz8:=hb.size
        clear hb
        cases v8 with
        |true=>
         go_wp2_with fail
         go_ret
         exact⟨rfl,HB8.out,F8.out.sm⟩
        |false=>
         go_wp2_with fail
         rw [rounds_succ]
         go_wp2_with fail
         go_ret
         exact⟨rfl,HB8.out,F8.out.sm⟩
end Go.Proofs.YtpbnjakeielipaaGreatDoor
