/-
  What the laws rest on, part 15: walks of the program's functions and plain laws. Conditions: none but those that each theorem names.
-/
import Derived.Test.YtlcidkiplidamaaGreatDoorB14
import Derived.Test.YtlcidkiplidamaaGreatDoorB11
set_option linter.unusedSimpArgs false
set_option linter.unusedVariables false
set_option maxRecDepth 100000
set_option maxHeartbeats 4000000
namespace Go.Proofs.YtlcidkiplidamaaGreatDoor
open Go Go.RowKit Lib
def mflags (cacc a:Int) (nm:List UInt8):Bool:=
 if someB a 256=true then true else if 1<kindsN a then true else if(someB a 1024&&someB a 26)=true then true else
 if(someB cacc 512&&(!someB a 3||someB a 16))=true then true else
 if(nm==initL)=true then someB a 1032||someB cacc 512 else if(nm==clinitL)=true then !someB a 8||someB a 1024 else false
theorem mflags_any (x:MethV) (cv tv:Value) (c:ClassV) (pool ifs flds mths:Value) (nm:ByteArray) (w:World):
  Calls Tryz.prog 105 #[bookV c pool ifs flds mths,methV x cv tv, .string nm] w fun e w'=>e= .returned (.bool (mflags c.acc x.acc nm.data.toList))∧Below w.heap.size w w':=by
 have HW0:=Lib.hid (((Below.refl w.heap.size w).alloc (Nat.le_refl _) (.cells #[.int .i64 c.minor, .int .i64 c.major,pool, .int .i64 c.acc, .int .i64 c.this, .int .i64 c.sup,ifs,flds,mths] 94)).alloc (by simp) (.cells #[.int .i64 x.acc, .int .i64 x.name, .int .i64 x.desc, .bool x.has, .int .i64 x.stack, .int .i64 x.locals,cv,tv] 37))
 have hzW:w.heap.size≤((w.alloc (.cells #[.int .i64 c.minor, .int .i64 c.major,pool, .int .i64 c.acc, .int .i64 c.this, .int .i64 c.sup,ifs,flds,mths] 94)).alloc (.cells #[.int .i64 x.acc, .int .i64 x.name, .int .i64 x.desc, .bool x.has, .int .i64 x.stack, .int .i64 x.locals,cv,tv] 37)).heap.size:=by simp<;>omega
 have HW:=Lib.hid (fun m=>HW0.out.trans ((below_drewN (Below.refl ((w.alloc (.cells #[.int .i64 c.minor, .int .i64 c.major,pool, .int .i64 c.acc, .int .i64 c.this, .int .i64 c.sup,ifs,flds,mths] 94)).alloc (.cells #[.int .i64 x.acc, .int .i64 x.name, .int .i64 x.desc, .bool x.has, .int .i64 x.stack, .int .i64 x.locals,cv,tv] 37)).heap.size ((w.alloc (.cells #[.int .i64 c.minor, .int .i64 c.major,pool, .int .i64 c.acc, .int .i64 c.this, .int .i64 c.sup,ifs,flds,mths] 94)).alloc (.cells #[.int .i64 x.acc, .int .i64 x.name, .int .i64 x.desc, .bool x.has, .int .i64 x.stack, .int .i64 x.locals,cv,tv] 37))) m).mono hzW))
 have X0:=Lib.hid ((bx_new w [.int .i64 c.minor, .int .i64 c.major,pool, .int .i64 c.acc, .int .i64 c.this, .int .i64 c.sup,ifs,flds,mths] 94).below ((Below.refl _ _).alloc (Nat.le_refl _) (.cells #[.int .i64 x.acc, .int .i64 x.name, .int .i64 x.desc, .bool x.has, .int .i64 x.stack, .int .i64 x.locals,cv,tv] 37)) (by simp))
 have F0:=Lib.hid (bx_new_at (w.alloc (.cells #[.int .i64 c.minor, .int .i64 c.major,pool, .int .i64 c.acc, .int .i64 c.this, .int .i64 c.sup,ifs,flds,mths] 94)) [.int .i64 x.acc, .int .i64 x.name, .int .i64 x.desc, .bool x.has, .int .i64 x.stack, .int .i64 x.locals,cv,tv] 37 (w.heap.size+1) (by simp))
 have xc:=X0.out.cell 3 rfl
 have fc:=F0.out.cell 0 rfl
 obtain⟨a,ha⟩: ∃a,x.acc=a:=⟨_,rfl⟩
 obtain⟨n,hn⟩: ∃n,kindsN a=n:=⟨_,rfl⟩
 have C1:=Lib.hid (kinds_cnt a)
 rw [hn] at C1
 obtain⟨b1,hb1⟩: ∃m,m=(nm.data.toList==initL):=⟨_,rfl⟩
 obtain⟨b2,hb2⟩: ∃m,m=(nm.data.toList==clinitL):=⟨_,rfl⟩
 have e1:(nm.toList== [60,105,110,105,116,62])=b1:=by rw [ByteArray.toList_eq,hb1];rfl
 have e2:(nm.toList== [60,99,108,105,110,105,116,62])=b2:=by rw [ByteArray.toList_eq,hb2];rfl
 have HR:=Lib.hid (show mflags c.acc x.acc nm.data.toList=if someB a 256=true then true else if 1<n then true else if(someB a 1024&&someB a 26)=true then true else
  if(someB c.acc 512&&(!someB a 3||someB a 16))=true then true else
  if b1=true then someB a 1032||someB c.acc 512 else if b2=true then !someB a 8||someB a 1024 else false by unfold mflags;rw [ha,hn, ←hb1, ←hb2])
 rw [HR.out]
 clear hn hb1 hb2 HR
 unfold methV
 rw [bookV_open]
 rw [ha] at HW HW0 hzW X0 F0 fc⊢
 have S256:=Lib.hid (fun W=>some_any a 256 W)
 obtain⟨v256,hv256⟩: ∃v,someB a 256=v:=⟨_,rfl⟩
 rw [hv256] at S256⊢
 clear hv256
 have S1024:=Lib.hid (fun W=>some_any a 1024 W)
 obtain⟨v1024,hv1024⟩: ∃v,someB a 1024=v:=⟨_,rfl⟩
 rw [hv1024] at S1024⊢
 clear hv1024
 have S26:=Lib.hid (fun W=>some_any a 26 W)
 obtain⟨v26,hv26⟩: ∃v,someB a 26=v:=⟨_,rfl⟩
 rw [hv26] at S26⊢
 clear hv26
 have S512:=Lib.hid (fun W=>some_any c.acc 512 W)
 obtain⟨v512,hv512⟩: ∃v,someB c.acc 512=v:=⟨_,rfl⟩
 rw [hv512] at S512⊢
 clear hv512
 have S3:=Lib.hid (fun W=>some_any a 3 W)
 obtain⟨v3,hv3⟩: ∃v,someB a 3=v:=⟨_,rfl⟩
 rw [hv3] at S3⊢
 clear hv3
 have S16:=Lib.hid (fun W=>some_any a 16 W)
 obtain⟨v16,hv16⟩: ∃v,someB a 16=v:=⟨_,rfl⟩
 rw [hv16] at S16⊢
 clear hv16
 have S1032:=Lib.hid (fun W=>some_any a 1032 W)
 obtain⟨v1032,hv1032⟩: ∃v,someB a 1032=v:=⟨_,rfl⟩
 rw [hv1032] at S1032⊢
 clear hv1032
 have S8:=Lib.hid (fun W=>some_any a 8 W)
 obtain⟨v8,hv8⟩: ∃v,someB a 8=v:=⟨_,rfl⟩
 rw [hv8] at S8⊢
 clear hv8
 have SQ:=Lib.hid (fun m:Nat=> (S512.out ((((w.alloc (.cells #[.int .i64 c.minor, .int .i64 c.major,pool, .int .i64 c.acc, .int .i64 c.this, .int .i64 c.sup,ifs,flds,mths] 94)).alloc (.cells #[.int .i64 a, .int .i64 x.name, .int .i64 x.desc, .bool x.has, .int .i64 x.stack, .int .i64 x.locals,cv,tv] 37))).drewN m)).mono (R':=fun e w'=>e= .returned (.bool v512)∧w'=(((w.alloc (.cells #[.int .i64 c.minor, .int .i64 c.major,pool, .int .i64 c.acc, .int .i64 c.this, .int .i64 c.sup,ifs,flds,mths] 94)).alloc (.cells #[.int .i64 a, .int .i64 x.name, .int .i64 x.desc, .bool x.has, .int .i64 x.stack, .int .i64 x.locals,cv,tv] 37))).drewN m) fun e w' hq=> ⟨hq.1,hq.2.symm⟩)
 cases v256 with
 |true=>
  go_enter Tryz.func105,Tryz.ntmps105
  go_wp2_with fail
  go_quiet ((go_at_call 88;exact Calls.quiet_of_same (SQ.out _)))
  all_goals
   go_wp2_with (first| (go_at_call 96;(with_reducible refine(C1.out _).mono ?_);rintro e w1 ⟨rfl,hb⟩;have HB:=Lib.hid ((HW.out _).trans (hb.mono (by simp<;>omega)));clear hb) | (go_at_call 88;(with_reducible refine(S256.out _).mono ?_);rintro e w2 ⟨rfl,rfl⟩) | (go_at_call 88;(with_reducible refine(S1024.out _).mono ?_);rintro e w2 ⟨rfl,rfl⟩) | (go_at_call 88;(with_reducible refine(S26.out _).mono ?_);rintro e w2 ⟨rfl,rfl⟩) | (go_at_call 88;(with_reducible refine(S512.out _).mono ?_);rintro e w2 ⟨rfl,rfl⟩) | (go_at_call 88;(with_reducible refine(S3.out _).mono ?_);rintro e w2 ⟨rfl,rfl⟩) | (go_at_call 88;(with_reducible refine(S16.out _).mono ?_);rintro e w2 ⟨rfl,rfl⟩) | (go_at_call 88;(with_reducible refine(S1032.out _).mono ?_);rintro e w2 ⟨rfl,rfl⟩) | (go_at_call 88;(with_reducible refine(S8.out _).mono ?_);rintro e w2 ⟨rfl,rfl⟩))
   go_ret
   exact⟨by simp,HW.out _⟩
 |false=>
  by_cases h1n:1<n
  ·have d1:decide ((n:Int) >1)=true:=by simp;omega
   rw [if_pos h1n]
   go_enter Tryz.func105,Tryz.ntmps105
   go_wp2_with fail
   go_quiet ((go_at_call 88;exact Calls.quiet_of_same (SQ.out _)))
   all_goals
    go_wp2_with (first| (go_at_call 96;(with_reducible refine(C1.out _).mono ?_);rintro e w1 ⟨rfl,hb⟩;have HB:=Lib.hid ((HW.out _).trans (hb.mono (by simp<;>omega)));clear hb) | (go_at_call 88;(with_reducible refine(S256.out _).mono ?_);rintro e w2 ⟨rfl,rfl⟩) | (go_at_call 88;(with_reducible refine(S1024.out _).mono ?_);rintro e w2 ⟨rfl,rfl⟩) | (go_at_call 88;(with_reducible refine(S26.out _).mono ?_);rintro e w2 ⟨rfl,rfl⟩) | (go_at_call 88;(with_reducible refine(S512.out _).mono ?_);rintro e w2 ⟨rfl,rfl⟩) | (go_at_call 88;(with_reducible refine(S3.out _).mono ?_);rintro e w2 ⟨rfl,rfl⟩) | (go_at_call 88;(with_reducible refine(S16.out _).mono ?_);rintro e w2 ⟨rfl,rfl⟩) | (go_at_call 88;(with_reducible refine(S1032.out _).mono ?_);rintro e w2 ⟨rfl,rfl⟩) | (go_at_call 88;(with_reducible refine(S8.out _).mono ?_);rintro e w2 ⟨rfl,rfl⟩))
    go_ret
    exact⟨by simp,HB.out⟩
  ·have d1:decide ((n:Int) >1)=false:=by simp;omega
   rw [if_neg h1n]
   cases v1024 with
   |true=>
    cases v26 with
    |true=>
     go_enter Tryz.func105,Tryz.ntmps105
     go_wp2_with fail
     go_quiet ((go_at_call 88;exact Calls.quiet_of_same (SQ.out _)))
     all_goals
      go_wp2_with (first| (go_at_call 96;(with_reducible refine(C1.out _).mono ?_);rintro e w1 ⟨rfl,hb⟩;have HB:=Lib.hid ((HW.out _).trans (hb.mono (by simp<;>omega)));clear hb) | (go_at_call 88;(with_reducible refine(S256.out _).mono ?_);rintro e w2 ⟨rfl,rfl⟩) | (go_at_call 88;(with_reducible refine(S1024.out _).mono ?_);rintro e w2 ⟨rfl,rfl⟩) | (go_at_call 88;(with_reducible refine(S26.out _).mono ?_);rintro e w2 ⟨rfl,rfl⟩) | (go_at_call 88;(with_reducible refine(S512.out _).mono ?_);rintro e w2 ⟨rfl,rfl⟩) | (go_at_call 88;(with_reducible refine(S3.out _).mono ?_);rintro e w2 ⟨rfl,rfl⟩) | (go_at_call 88;(with_reducible refine(S16.out _).mono ?_);rintro e w2 ⟨rfl,rfl⟩) | (go_at_call 88;(with_reducible refine(S1032.out _).mono ?_);rintro e w2 ⟨rfl,rfl⟩) | (go_at_call 88;(with_reducible refine(S8.out _).mono ?_);rintro e w2 ⟨rfl,rfl⟩))
      go_ret
      exact⟨by simp,HB.out⟩
    |false=>
     cases v512 with
     |true=>
      cases v3 with
      |true=>
       cases v16 with
       |true=>
        go_enter Tryz.func105,Tryz.ntmps105
        go_wp2_with fail
        go_quiet ((go_at_call 88;exact Calls.quiet_of_same (SQ.out _)))
        all_goals
         go_wp2_with (first| (go_at_call 96;(with_reducible refine(C1.out _).mono ?_);rintro e w1 ⟨rfl,hb⟩;have HB:=Lib.hid ((HW.out _).trans (hb.mono (by simp<;>omega)));clear hb) | (go_at_call 88;(with_reducible refine(S256.out _).mono ?_);rintro e w2 ⟨rfl,rfl⟩) | (go_at_call 88;(with_reducible refine(S1024.out _).mono ?_);rintro e w2 ⟨rfl,rfl⟩) | (go_at_call 88;(with_reducible refine(S26.out _).mono ?_);rintro e w2 ⟨rfl,rfl⟩) | (go_at_call 88;(with_reducible refine(S512.out _).mono ?_);rintro e w2 ⟨rfl,rfl⟩) | (go_at_call 88;(with_reducible refine(S3.out _).mono ?_);rintro e w2 ⟨rfl,rfl⟩) | (go_at_call 88;(with_reducible refine(S16.out _).mono ?_);rintro e w2 ⟨rfl,rfl⟩) | (go_at_call 88;(with_reducible refine(S1032.out _).mono ?_);rintro e w2 ⟨rfl,rfl⟩) | (go_at_call 88;(with_reducible refine(S8.out _).mono ?_);rintro e w2 ⟨rfl,rfl⟩))
         go_ret
         exact⟨by simp,HB.out⟩
       |false=>
        cases b1 with
        |true=>
         cases v1032
         all_goals
          go_enter Tryz.func105,Tryz.ntmps105
          go_wp2_with fail
          go_quiet ((go_at_call 88;exact Calls.quiet_of_same (SQ.out _)))
          all_goals
           go_wp2_with (first| (go_at_call 96;(with_reducible refine(C1.out _).mono ?_);rintro e w1 ⟨rfl,hb⟩;have HB:=Lib.hid ((HW.out _).trans (hb.mono (by simp<;>omega)));clear hb) | (go_at_call 88;(with_reducible refine(S256.out _).mono ?_);rintro e w2 ⟨rfl,rfl⟩) | (go_at_call 88;(with_reducible refine(S1024.out _).mono ?_);rintro e w2 ⟨rfl,rfl⟩) | (go_at_call 88;(with_reducible refine(S26.out _).mono ?_);rintro e w2 ⟨rfl,rfl⟩) | (go_at_call 88;(with_reducible refine(S512.out _).mono ?_);rintro e w2 ⟨rfl,rfl⟩) | (go_at_call 88;(with_reducible refine(S3.out _).mono ?_);rintro e w2 ⟨rfl,rfl⟩) | (go_at_call 88;(with_reducible refine(S16.out _).mono ?_);rintro e w2 ⟨rfl,rfl⟩) | (go_at_call 88;(with_reducible refine(S1032.out _).mono ?_);rintro e w2 ⟨rfl,rfl⟩) | (go_at_call 88;(with_reducible refine(S8.out _).mono ?_);rintro e w2 ⟨rfl,rfl⟩))
           go_ret
           exact⟨by simp,HB.out⟩
        |false=>
         cases b2 with
         |true=>
          cases v8
          all_goals
           go_enter Tryz.func105,Tryz.ntmps105
           go_wp2_with fail
           go_quiet ((go_at_call 88;exact Calls.quiet_of_same (SQ.out _)))
           all_goals
            go_wp2_with (first| (go_at_call 96;(with_reducible refine(C1.out _).mono ?_);rintro e w1 ⟨rfl,hb⟩;have HB:=Lib.hid ((HW.out _).trans (hb.mono (by simp<;>omega)));clear hb) | (go_at_call 88;(with_reducible refine(S256.out _).mono ?_);rintro e w2 ⟨rfl,rfl⟩) | (go_at_call 88;(with_reducible refine(S1024.out _).mono ?_);rintro e w2 ⟨rfl,rfl⟩) | (go_at_call 88;(with_reducible refine(S26.out _).mono ?_);rintro e w2 ⟨rfl,rfl⟩) | (go_at_call 88;(with_reducible refine(S512.out _).mono ?_);rintro e w2 ⟨rfl,rfl⟩) | (go_at_call 88;(with_reducible refine(S3.out _).mono ?_);rintro e w2 ⟨rfl,rfl⟩) | (go_at_call 88;(with_reducible refine(S16.out _).mono ?_);rintro e w2 ⟨rfl,rfl⟩) | (go_at_call 88;(with_reducible refine(S1032.out _).mono ?_);rintro e w2 ⟨rfl,rfl⟩) | (go_at_call 88;(with_reducible refine(S8.out _).mono ?_);rintro e w2 ⟨rfl,rfl⟩))
            go_ret
            exact⟨by simp,HB.out⟩
         |false=>
          go_enter Tryz.func105,Tryz.ntmps105
          go_wp2_with fail
          go_quiet ((go_at_call 88;exact Calls.quiet_of_same (SQ.out _)))
          all_goals
           go_wp2_with (first| (go_at_call 96;(with_reducible refine(C1.out _).mono ?_);rintro e w1 ⟨rfl,hb⟩;have HB:=Lib.hid ((HW.out _).trans (hb.mono (by simp<;>omega)));clear hb) | (go_at_call 88;(with_reducible refine(S256.out _).mono ?_);rintro e w2 ⟨rfl,rfl⟩) | (go_at_call 88;(with_reducible refine(S1024.out _).mono ?_);rintro e w2 ⟨rfl,rfl⟩) | (go_at_call 88;(with_reducible refine(S26.out _).mono ?_);rintro e w2 ⟨rfl,rfl⟩) | (go_at_call 88;(with_reducible refine(S512.out _).mono ?_);rintro e w2 ⟨rfl,rfl⟩) | (go_at_call 88;(with_reducible refine(S3.out _).mono ?_);rintro e w2 ⟨rfl,rfl⟩) | (go_at_call 88;(with_reducible refine(S16.out _).mono ?_);rintro e w2 ⟨rfl,rfl⟩) | (go_at_call 88;(with_reducible refine(S1032.out _).mono ?_);rintro e w2 ⟨rfl,rfl⟩) | (go_at_call 88;(with_reducible refine(S8.out _).mono ?_);rintro e w2 ⟨rfl,rfl⟩))
           go_ret
           exact⟨by simp,HB.out⟩
      |false=>
       go_enter Tryz.func105,Tryz.ntmps105
       go_wp2_with fail
       go_quiet ((go_at_call 88;exact Calls.quiet_of_same (SQ.out _)))
       all_goals
        go_wp2_with (first| (go_at_call 96;(with_reducible refine(C1.out _).mono ?_);rintro e w1 ⟨rfl,hb⟩;have HB:=Lib.hid ((HW.out _).trans (hb.mono (by simp<;>omega)));clear hb) | (go_at_call 88;(with_reducible refine(S256.out _).mono ?_);rintro e w2 ⟨rfl,rfl⟩) | (go_at_call 88;(with_reducible refine(S1024.out _).mono ?_);rintro e w2 ⟨rfl,rfl⟩) | (go_at_call 88;(with_reducible refine(S26.out _).mono ?_);rintro e w2 ⟨rfl,rfl⟩) | (go_at_call 88;(with_reducible refine(S512.out _).mono ?_);rintro e w2 ⟨rfl,rfl⟩) | (go_at_call 88;(with_reducible refine(S3.out _).mono ?_);rintro e w2 ⟨rfl,rfl⟩) | (go_at_call 88;(with_reducible refine(S16.out _).mono ?_);rintro e w2 ⟨rfl,rfl⟩) | (go_at_call 88;(with_reducible refine(S1032.out _).mono ?_);rintro e w2 ⟨rfl,rfl⟩) | (go_at_call 88;(with_reducible refine(S8.out _).mono ?_);rintro e w2 ⟨rfl,rfl⟩))
        go_ret
        exact⟨by simp,HB.out⟩
     |false=>
      cases b1 with
      |true=>
       cases v1032
       all_goals
        go_enter Tryz.func105,Tryz.ntmps105
        go_wp2_with fail
        go_quiet ((go_at_call 88;exact Calls.quiet_of_same (SQ.out _)))
        all_goals
         go_wp2_with (first| (go_at_call 96;(with_reducible refine(C1.out _).mono ?_);rintro e w1 ⟨rfl,hb⟩;have HB:=Lib.hid ((HW.out _).trans (hb.mono (by simp<;>omega)));clear hb) | (go_at_call 88;(with_reducible refine(S256.out _).mono ?_);rintro e w2 ⟨rfl,rfl⟩) | (go_at_call 88;(with_reducible refine(S1024.out _).mono ?_);rintro e w2 ⟨rfl,rfl⟩) | (go_at_call 88;(with_reducible refine(S26.out _).mono ?_);rintro e w2 ⟨rfl,rfl⟩) | (go_at_call 88;(with_reducible refine(S512.out _).mono ?_);rintro e w2 ⟨rfl,rfl⟩) | (go_at_call 88;(with_reducible refine(S3.out _).mono ?_);rintro e w2 ⟨rfl,rfl⟩) | (go_at_call 88;(with_reducible refine(S16.out _).mono ?_);rintro e w2 ⟨rfl,rfl⟩) | (go_at_call 88;(with_reducible refine(S1032.out _).mono ?_);rintro e w2 ⟨rfl,rfl⟩) | (go_at_call 88;(with_reducible refine(S8.out _).mono ?_);rintro e w2 ⟨rfl,rfl⟩))
         go_ret
         exact⟨by simp,HB.out⟩
      |false=>
       cases b2 with
       |true=>
        cases v8
        all_goals
         go_enter Tryz.func105,Tryz.ntmps105
         go_wp2_with fail
         go_quiet ((go_at_call 88;exact Calls.quiet_of_same (SQ.out _)))
         all_goals
          go_wp2_with (first| (go_at_call 96;(with_reducible refine(C1.out _).mono ?_);rintro e w1 ⟨rfl,hb⟩;have HB:=Lib.hid ((HW.out _).trans (hb.mono (by simp<;>omega)));clear hb) | (go_at_call 88;(with_reducible refine(S256.out _).mono ?_);rintro e w2 ⟨rfl,rfl⟩) | (go_at_call 88;(with_reducible refine(S1024.out _).mono ?_);rintro e w2 ⟨rfl,rfl⟩) | (go_at_call 88;(with_reducible refine(S26.out _).mono ?_);rintro e w2 ⟨rfl,rfl⟩) | (go_at_call 88;(with_reducible refine(S512.out _).mono ?_);rintro e w2 ⟨rfl,rfl⟩) | (go_at_call 88;(with_reducible refine(S3.out _).mono ?_);rintro e w2 ⟨rfl,rfl⟩) | (go_at_call 88;(with_reducible refine(S16.out _).mono ?_);rintro e w2 ⟨rfl,rfl⟩) | (go_at_call 88;(with_reducible refine(S1032.out _).mono ?_);rintro e w2 ⟨rfl,rfl⟩) | (go_at_call 88;(with_reducible refine(S8.out _).mono ?_);rintro e w2 ⟨rfl,rfl⟩))
          go_ret
          exact⟨by simp,HB.out⟩
       |false=>
        go_enter Tryz.func105,Tryz.ntmps105
        go_wp2_with fail
        go_quiet ((go_at_call 88;exact Calls.quiet_of_same (SQ.out _)))
        all_goals
         go_wp2_with (first| (go_at_call 96;(with_reducible refine(C1.out _).mono ?_);rintro e w1 ⟨rfl,hb⟩;have HB:=Lib.hid ((HW.out _).trans (hb.mono (by simp<;>omega)));clear hb) | (go_at_call 88;(with_reducible refine(S256.out _).mono ?_);rintro e w2 ⟨rfl,rfl⟩) | (go_at_call 88;(with_reducible refine(S1024.out _).mono ?_);rintro e w2 ⟨rfl,rfl⟩) | (go_at_call 88;(with_reducible refine(S26.out _).mono ?_);rintro e w2 ⟨rfl,rfl⟩) | (go_at_call 88;(with_reducible refine(S512.out _).mono ?_);rintro e w2 ⟨rfl,rfl⟩) | (go_at_call 88;(with_reducible refine(S3.out _).mono ?_);rintro e w2 ⟨rfl,rfl⟩) | (go_at_call 88;(with_reducible refine(S16.out _).mono ?_);rintro e w2 ⟨rfl,rfl⟩) | (go_at_call 88;(with_reducible refine(S1032.out _).mono ?_);rintro e w2 ⟨rfl,rfl⟩) | (go_at_call 88;(with_reducible refine(S8.out _).mono ?_);rintro e w2 ⟨rfl,rfl⟩))
         go_ret
         exact⟨by simp,HB.out⟩
   |false=>
    cases v512 with
    |true=>
     cases v3 with
     |true=>
      cases v16 with
      |true=>
       go_enter Tryz.func105,Tryz.ntmps105
       go_wp2_with fail
       go_quiet ((go_at_call 88;exact Calls.quiet_of_same (SQ.out _)))
       all_goals
        go_wp2_with (first| (go_at_call 96;(with_reducible refine(C1.out _).mono ?_);rintro e w1 ⟨rfl,hb⟩;have HB:=Lib.hid ((HW.out _).trans (hb.mono (by simp<;>omega)));clear hb) | (go_at_call 88;(with_reducible refine(S256.out _).mono ?_);rintro e w2 ⟨rfl,rfl⟩) | (go_at_call 88;(with_reducible refine(S1024.out _).mono ?_);rintro e w2 ⟨rfl,rfl⟩) | (go_at_call 88;(with_reducible refine(S26.out _).mono ?_);rintro e w2 ⟨rfl,rfl⟩) | (go_at_call 88;(with_reducible refine(S512.out _).mono ?_);rintro e w2 ⟨rfl,rfl⟩) | (go_at_call 88;(with_reducible refine(S3.out _).mono ?_);rintro e w2 ⟨rfl,rfl⟩) | (go_at_call 88;(with_reducible refine(S16.out _).mono ?_);rintro e w2 ⟨rfl,rfl⟩) | (go_at_call 88;(with_reducible refine(S1032.out _).mono ?_);rintro e w2 ⟨rfl,rfl⟩) | (go_at_call 88;(with_reducible refine(S8.out _).mono ?_);rintro e w2 ⟨rfl,rfl⟩))
        go_ret
        exact⟨by simp,HB.out⟩
      |false=>
       cases b1 with
       |true=>
        cases v1032
        all_goals
         go_enter Tryz.func105,Tryz.ntmps105
         go_wp2_with fail
         go_quiet ((go_at_call 88;exact Calls.quiet_of_same (SQ.out _)))
         all_goals
          go_wp2_with (first| (go_at_call 96;(with_reducible refine(C1.out _).mono ?_);rintro e w1 ⟨rfl,hb⟩;have HB:=Lib.hid ((HW.out _).trans (hb.mono (by simp<;>omega)));clear hb) | (go_at_call 88;(with_reducible refine(S256.out _).mono ?_);rintro e w2 ⟨rfl,rfl⟩) | (go_at_call 88;(with_reducible refine(S1024.out _).mono ?_);rintro e w2 ⟨rfl,rfl⟩) | (go_at_call 88;(with_reducible refine(S26.out _).mono ?_);rintro e w2 ⟨rfl,rfl⟩) | (go_at_call 88;(with_reducible refine(S512.out _).mono ?_);rintro e w2 ⟨rfl,rfl⟩) | (go_at_call 88;(with_reducible refine(S3.out _).mono ?_);rintro e w2 ⟨rfl,rfl⟩) | (go_at_call 88;(with_reducible refine(S16.out _).mono ?_);rintro e w2 ⟨rfl,rfl⟩) | (go_at_call 88;(with_reducible refine(S1032.out _).mono ?_);rintro e w2 ⟨rfl,rfl⟩) | (go_at_call 88;(with_reducible refine(S8.out _).mono ?_);rintro e w2 ⟨rfl,rfl⟩))
          go_ret
          exact⟨by simp,HB.out⟩
       |false=>
        cases b2 with
        |true=>
         cases v8
         all_goals
          go_enter Tryz.func105,Tryz.ntmps105
          go_wp2_with fail
          go_quiet ((go_at_call 88;exact Calls.quiet_of_same (SQ.out _)))
          all_goals
           go_wp2_with (first| (go_at_call 96;(with_reducible refine(C1.out _).mono ?_);rintro e w1 ⟨rfl,hb⟩;have HB:=Lib.hid ((HW.out _).trans (hb.mono (by simp<;>omega)));clear hb) | (go_at_call 88;(with_reducible refine(S256.out _).mono ?_);rintro e w2 ⟨rfl,rfl⟩) | (go_at_call 88;(with_reducible refine(S1024.out _).mono ?_);rintro e w2 ⟨rfl,rfl⟩) | (go_at_call 88;(with_reducible refine(S26.out _).mono ?_);rintro e w2 ⟨rfl,rfl⟩) | (go_at_call 88;(with_reducible refine(S512.out _).mono ?_);rintro e w2 ⟨rfl,rfl⟩) | (go_at_call 88;(with_reducible refine(S3.out _).mono ?_);rintro e w2 ⟨rfl,rfl⟩) | (go_at_call 88;(with_reducible refine(S16.out _).mono ?_);rintro e w2 ⟨rfl,rfl⟩) | (go_at_call 88;(with_reducible refine(S1032.out _).mono ?_);rintro e w2 ⟨rfl,rfl⟩) | (go_at_call 88;(with_reducible refine(S8.out _).mono ?_);rintro e w2 ⟨rfl,rfl⟩))
           go_ret
           exact⟨by simp,HB.out⟩
        |false=>
         go_enter Tryz.func105,Tryz.ntmps105
         go_wp2_with fail
         go_quiet ((go_at_call 88;exact Calls.quiet_of_same (SQ.out _)))
         all_goals
          go_wp2_with (first| (go_at_call 96;(with_reducible refine(C1.out _).mono ?_);rintro e w1 ⟨rfl,hb⟩;have HB:=Lib.hid ((HW.out _).trans (hb.mono (by simp<;>omega)));clear hb) | (go_at_call 88;(with_reducible refine(S256.out _).mono ?_);rintro e w2 ⟨rfl,rfl⟩) | (go_at_call 88;(with_reducible refine(S1024.out _).mono ?_);rintro e w2 ⟨rfl,rfl⟩) | (go_at_call 88;(with_reducible refine(S26.out _).mono ?_);rintro e w2 ⟨rfl,rfl⟩) | (go_at_call 88;(with_reducible refine(S512.out _).mono ?_);rintro e w2 ⟨rfl,rfl⟩) | (go_at_call 88;(with_reducible refine(S3.out _).mono ?_);rintro e w2 ⟨rfl,rfl⟩) | (go_at_call 88;(with_reducible refine(S16.out _).mono ?_);rintro e w2 ⟨rfl,rfl⟩) | (go_at_call 88;(with_reducible refine(S1032.out _).mono ?_);rintro e w2 ⟨rfl,rfl⟩) | (go_at_call 88;(with_reducible refine(S8.out _).mono ?_);rintro e w2 ⟨rfl,rfl⟩))
          go_ret
          exact⟨by simp,HB.out⟩
     |false=>
      go_enter Tryz.func105,Tryz.ntmps105
      go_wp2_with fail
      go_quiet ((go_at_call 88;exact Calls.quiet_of_same (SQ.out _)))
      all_goals
       go_wp2_with (first| (go_at_call 96;(with_reducible refine(C1.out _).mono ?_);rintro e w1 ⟨rfl,hb⟩;have HB:=Lib.hid ((HW.out _).trans (hb.mono (by simp<;>omega)));clear hb) | (go_at_call 88;(with_reducible refine(S256.out _).mono ?_);rintro e w2 ⟨rfl,rfl⟩) | (go_at_call 88;(with_reducible refine(S1024.out _).mono ?_);rintro e w2 ⟨rfl,rfl⟩) | (go_at_call 88;(with_reducible refine(S26.out _).mono ?_);rintro e w2 ⟨rfl,rfl⟩) | (go_at_call 88;(with_reducible refine(S512.out _).mono ?_);rintro e w2 ⟨rfl,rfl⟩) | (go_at_call 88;(with_reducible refine(S3.out _).mono ?_);rintro e w2 ⟨rfl,rfl⟩) | (go_at_call 88;(with_reducible refine(S16.out _).mono ?_);rintro e w2 ⟨rfl,rfl⟩) | (go_at_call 88;(with_reducible refine(S1032.out _).mono ?_);rintro e w2 ⟨rfl,rfl⟩) | (go_at_call 88;(with_reducible refine(S8.out _).mono ?_);rintro e w2 ⟨rfl,rfl⟩))
       go_ret
       exact⟨by simp,HB.out⟩
    |false=>
     cases b1 with
     |true=>
      cases v1032
      all_goals
       go_enter Tryz.func105,Tryz.ntmps105
       go_wp2_with fail
       go_quiet ((go_at_call 88;exact Calls.quiet_of_same (SQ.out _)))
       all_goals
        go_wp2_with (first| (go_at_call 96;(with_reducible refine(C1.out _).mono ?_);rintro e w1 ⟨rfl,hb⟩;have HB:=Lib.hid ((HW.out _).trans (hb.mono (by simp<;>omega)));clear hb) | (go_at_call 88;(with_reducible refine(S256.out _).mono ?_);rintro e w2 ⟨rfl,rfl⟩) | (go_at_call 88;(with_reducible refine(S1024.out _).mono ?_);rintro e w2 ⟨rfl,rfl⟩) | (go_at_call 88;(with_reducible refine(S26.out _).mono ?_);rintro e w2 ⟨rfl,rfl⟩) | (go_at_call 88;(with_reducible refine(S512.out _).mono ?_);rintro e w2 ⟨rfl,rfl⟩) | (go_at_call 88;(with_reducible refine(S3.out _).mono ?_);rintro e w2 ⟨rfl,rfl⟩) | (go_at_call 88;(with_reducible refine(S16.out _).mono ?_);rintro e w2 ⟨rfl,rfl⟩) | (go_at_call 88;(with_reducible refine(S1032.out _).mono ?_);rintro e w2 ⟨rfl,rfl⟩) | (go_at_call 88;(with_reducible refine(S8.out _).mono ?_);rintro e w2 ⟨rfl,rfl⟩))
        go_ret
        exact⟨by simp,HB.out⟩
     |false=>
      cases b2 with
      |true=>
       cases v8
       all_goals
        go_enter Tryz.func105,Tryz.ntmps105
        go_wp2_with fail
        go_quiet ((go_at_call 88;exact Calls.quiet_of_same (SQ.out _)))
        all_goals
         go_wp2_with (first| (go_at_call 96;(with_reducible refine(C1.out _).mono ?_);rintro e w1 ⟨rfl,hb⟩;have HB:=Lib.hid ((HW.out _).trans (hb.mono (by simp<;>omega)));clear hb) | (go_at_call 88;(with_reducible refine(S256.out _).mono ?_);rintro e w2 ⟨rfl,rfl⟩) | (go_at_call 88;(with_reducible refine(S1024.out _).mono ?_);rintro e w2 ⟨rfl,rfl⟩) | (go_at_call 88;(with_reducible refine(S26.out _).mono ?_);rintro e w2 ⟨rfl,rfl⟩) | (go_at_call 88;(with_reducible refine(S512.out _).mono ?_);rintro e w2 ⟨rfl,rfl⟩) | (go_at_call 88;(with_reducible refine(S3.out _).mono ?_);rintro e w2 ⟨rfl,rfl⟩) | (go_at_call 88;(with_reducible refine(S16.out _).mono ?_);rintro e w2 ⟨rfl,rfl⟩) | (go_at_call 88;(with_reducible refine(S1032.out _).mono ?_);rintro e w2 ⟨rfl,rfl⟩) | (go_at_call 88;(with_reducible refine(S8.out _).mono ?_);rintro e w2 ⟨rfl,rfl⟩))
         go_ret
         exact⟨by simp,HB.out⟩
      |false=>
       go_enter Tryz.func105,Tryz.ntmps105
       go_wp2_with fail
       go_quiet ((go_at_call 88;exact Calls.quiet_of_same (SQ.out _)))
       all_goals
        go_wp2_with (first| (go_at_call 96;(with_reducible refine(C1.out _).mono ?_);rintro e w1 ⟨rfl,hb⟩;have HB:=Lib.hid ((HW.out _).trans (hb.mono (by simp<;>omega)));clear hb) | (go_at_call 88;(with_reducible refine(S256.out _).mono ?_);rintro e w2 ⟨rfl,rfl⟩) | (go_at_call 88;(with_reducible refine(S1024.out _).mono ?_);rintro e w2 ⟨rfl,rfl⟩) | (go_at_call 88;(with_reducible refine(S26.out _).mono ?_);rintro e w2 ⟨rfl,rfl⟩) | (go_at_call 88;(with_reducible refine(S512.out _).mono ?_);rintro e w2 ⟨rfl,rfl⟩) | (go_at_call 88;(with_reducible refine(S3.out _).mono ?_);rintro e w2 ⟨rfl,rfl⟩) | (go_at_call 88;(with_reducible refine(S16.out _).mono ?_);rintro e w2 ⟨rfl,rfl⟩) | (go_at_call 88;(with_reducible refine(S1032.out _).mono ?_);rintro e w2 ⟨rfl,rfl⟩) | (go_at_call 88;(with_reducible refine(S8.out _).mono ?_);rintro e w2 ⟨rfl,rfl⟩))
        go_ret
        exact⟨by simp,HB.out⟩
def trapBad (n:Int) (t:TrapV):Bool:=decide (t.lo<0) ||decide (t.hi≤t.lo) ||decide (n<t.hi) ||decide (t.tgt<0) ||decide (n≤t.tgt)
def needN (acc:Int) (na:Nat):Int:=if someB acc 8=true then(na:Int) else(na:Int)+1
def codeBad (x:MethV) (na:Nat):Bool:=if x.has=someB x.acc 1024 then true else if x.has=false then false else
 if x.code.length=0∨x.stack<0∨64<x.stack∨x.locals<0∨64<x.locals∨x.locals<needN x.acc na then true else x.traps.any (trapBad x.code.length)
theorem trap_cells {w:World} {ok:Nat→Prop} {l:List TrapV} {A:Option Addr} {cap:Nat} (h:SlAt w ok 4 l.length (l.flatMap TrapV.cells) (.slice A l.length cap)): ∀(k:Nat) (x:TrapV),l[k]?=some x→ ∃b off,A=some ⟨b,off,none⟩∧b<w.heap.size∧
  w.cell? ⟨b,off+k*4,none⟩=some (.int .i64 x.lo)∧w.cell? ⟨b,off+k*4+1,none⟩=some (.int .i64 x.hi)∧w.cell? ⟨b,off+k*4+2,none⟩=some (.int .i64 x.tgt)∧w.cell? ⟨b,off+k*4+3,none⟩=some (.int .i64 x.kind):=by
 intro k x hk
 obtain⟨A',cap',e,_,_,_,h5⟩:=h
 injection e with e1 _ _
 subst e1
 obtain⟨b,off,e,hlt,_,hc⟩:=h5 (by have:=(List.getElem?_eq_some_iff.1 hk).1;omega)
 have hr:=rows_at TrapV.cells 4 (fun _=>rfl) l k x hk
 exact⟨b,off,e,hlt,hc _ _ ((hr 0 (by omega)).trans rfl),hc _ _ ((hr 1 (by omega)).trans rfl),hc _ _ ((hr 2 (by omega)).trans rfl),hc _ _ ((hr 3 (by omega)).trans rfl)⟩
theorem code_chk (x:MethV) (cv tv:Value) (ok:Nat→Prop) (args:ByteArray) (w:World) (h:MethAt w ok x cv tv) (hs:args.size≤65536):
  Calls Tryz.prog 109 #[methV x cv tv, .string args] w fun e w'=>e= .returned (.bool (codeBad x args.size))∧Below w.heap.size w w':=by
 obtain⟨Ac,kc,rfl,_,zc⟩:=sl_len h.hcode
 obtain⟨At,kt,rfl,_,zt⟩:=sl_len h.htraps
 obtain⟨acc,nm,ds,has,stack,locals,code,traps⟩:=x
 have HT:=Lib.hid h.htraps
 simp only at HT zc zt
 clear h
 obtain⟨R,hR⟩: ∃R,codeBad ⟨acc,nm,ds,has,stack,locals,code,traps⟩ args.size=R:=⟨_,rfl⟩
 rw [hR]
 have HR:=Lib.hid hR
 clear hR
 obtain⟨ab,hab⟩: ∃b,someB acc 1024=b:=⟨_,rfl⟩
 obtain⟨st,hst⟩: ∃b,someB acc 8=b:=⟨_,rfl⟩
 have C1:=Lib.hid (fun W=>some_any acc 1024 W)
 have C2:=Lib.hid (fun W=>some_any acc 8 W)
 rw [hab] at C1
 rw [hst] at C2
 have HAB:=Lib.hid hab
 have HST:=Lib.hid hst
 clear hab hst
 unfold methV
 dsimp only
 cases has with
 |false=>
  have HW:=Lib.hid ((Below.refl w.heap.size w).alloc (Nat.le_refl _) (.cells #[.int .i64 acc, .int .i64 nm, .int .i64 ds, .bool false, .int .i64 stack, .int .i64 locals, .slice Ac code.length kc, .slice At traps.length kt] 37))
  cases ab with
  |false=>
   have HX:=Lib.hid (show R=true by rw [←HR.out];unfold codeBad;simp only [];rw [HAB.out];rfl)
   go_enter Tryz.func109,Tryz.ntmps109
   go_wp2_with (first| (go_at_call 88;(with_reducible refine(C1.out _).mono ?_);rintro e w2 ⟨rfl,rfl⟩) | (go_at_call 88;(with_reducible refine(C2.out _).mono ?_);rintro e w2 ⟨rfl,rfl⟩))
   go_ret
   exact⟨by rw [HX.out];rfl,HW.out⟩
  |true=>
   have HX:=Lib.hid (show R=false by rw [←HR.out];unfold codeBad;simp only [];rw [HAB.out];rfl)
   go_enter Tryz.func109,Tryz.ntmps109
   go_wp2_with (first| (go_at_call 88;(with_reducible refine(C1.out _).mono ?_);rintro e w2 ⟨rfl,rfl⟩) | (go_at_call 88;(with_reducible refine(C2.out _).mono ?_);rintro e w2 ⟨rfl,rfl⟩))
   go_ret
   exact⟨by rw [HX.out];rfl,HW.out⟩
 |true=>
  have HW:=Lib.hid ((Below.refl w.heap.size w).alloc (Nat.le_refl _) (.cells #[.int .i64 acc, .int .i64 nm, .int .i64 ds, .bool true, .int .i64 stack, .int .i64 locals, .slice Ac code.length kc, .slice At traps.length kt] 37))
  cases ab with
  |true=>
   have HX:=Lib.hid (show R=true by rw [←HR.out];unfold codeBad;simp only [];rw [HAB.out];rfl)
   go_enter Tryz.func109,Tryz.ntmps109
   go_wp2_with (first| (go_at_call 88;(with_reducible refine(C1.out _).mono ?_);rintro e w2 ⟨rfl,rfl⟩) | (go_at_call 88;(with_reducible refine(C2.out _).mono ?_);rintro e w2 ⟨rfl,rfl⟩))
   go_ret
   exact⟨by rw [HX.out];rfl,HW.out⟩
  |false=>
   have HR1:=Lib.hid (show R=if code.length=0∨stack<0∨64<stack∨locals<0∨64<locals∨locals<needN acc args.size then true else traps.any (trapBad code.length) by rw [←HR.out];unfold codeBad;simp only [];rw [HAB.out,if_neg (by decide),if_neg (by decide)])
   have X0:=Lib.hid (bx_new w [.int .i64 acc, .int .i64 nm, .int .i64 ds, .bool true, .int .i64 stack, .int .i64 locals, .slice Ac code.length kc, .slice At traps.length kt] 37)
   obtain⟨n,hn⟩: ∃n,code.length=n:=⟨_,rfl⟩
   rw [hn] at HR1 HW X0 zc⊢
   clear HR
   by_cases h1:n=0
   ·have HX:=Lib.hid (show R=true by rw [HR1.out,if_pos (.inl h1)])
    subst h1
    cases st
    all_goals
     go_enter Tryz.func109,Tryz.ntmps109
     go_wp2_with (first| (go_at_call 88;(with_reducible refine(C1.out _).mono ?_);rintro e w2 ⟨rfl,rfl⟩) | (go_at_call 88;(with_reducible refine(C2.out _).mono ?_);rintro e w2 ⟨rfl,rfl⟩))
     go_ret
     exact⟨by rw [HX.out];rfl,HW.out⟩
   have b1:((n:Int)==0)=false:=by simp;omega
   have HND:=Lib.hid (show needN acc args.size=if st=true then(args.size:Int) else(args.size:Int)+1 by unfold needN;rw [HST.out])
   obtain⟨nd,hnd⟩: ∃nd,needN acc args.size=nd:=⟨_,rfl⟩
   rw [hnd] at HR1 HND
   clear hnd hn
   by_cases h2:stack<0
   ·have HX:=Lib.hid (show R=true by rw [HR1.out,if_pos (.inr (.inl h2))])
    have b2:decide (stack<0)=true:=decide_eq_true h2
    clear h2
    cases st
    all_goals
     go_enter Tryz.func109,Tryz.ntmps109
     go_wp2_with (first| (go_at_call 88;(with_reducible refine(C1.out _).mono ?_);rintro e w2 ⟨rfl,rfl⟩) | (go_at_call 88;(with_reducible refine(C2.out _).mono ?_);rintro e w2 ⟨rfl,rfl⟩))
     go_ret
     exact⟨by rw [HX.out];rfl,HW.out⟩
   have b2:decide (stack<0)=false:=decide_eq_false h2
   by_cases h3:64<stack
   ·have HX:=Lib.hid (show R=true by rw [HR1.out,if_pos (.inr (.inr (.inl h3)))])
    have b3:decide (64<stack)=true:=decide_eq_true h3
    clear h3
    cases st
    all_goals
     go_enter Tryz.func109,Tryz.ntmps109
     go_wp2_with (first| (go_at_call 88;(with_reducible refine(C1.out _).mono ?_);rintro e w2 ⟨rfl,rfl⟩) | (go_at_call 88;(with_reducible refine(C2.out _).mono ?_);rintro e w2 ⟨rfl,rfl⟩))
     go_ret
     exact⟨by rw [HX.out];rfl,HW.out⟩
   have b3:decide (64<stack)=false:=decide_eq_false h3
   by_cases h4:locals<0
   ·have HX:=Lib.hid (show R=true by rw [HR1.out,if_pos (.inr (.inr (.inr (.inl h4))))])
    have b4:decide (locals<0)=true:=decide_eq_true h4
    clear h4
    cases st
    all_goals
     go_enter Tryz.func109,Tryz.ntmps109
     go_wp2_with (first| (go_at_call 88;(with_reducible refine(C1.out _).mono ?_);rintro e w2 ⟨rfl,rfl⟩) | (go_at_call 88;(with_reducible refine(C2.out _).mono ?_);rintro e w2 ⟨rfl,rfl⟩))
     go_ret
     exact⟨by rw [HX.out];rfl,HW.out⟩
   have b4:decide (locals<0)=false:=decide_eq_false h4
   by_cases h5:64<locals
   ·have HX:=Lib.hid (show R=true by rw [HR1.out,if_pos (.inr (.inr (.inr (.inr (.inl h5)))))])
    have b5:decide (64<locals)=true:=decide_eq_true h5
    clear h5
    cases st
    all_goals
     go_enter Tryz.func109,Tryz.ntmps109
     go_wp2_with (first| (go_at_call 88;(with_reducible refine(C1.out _).mono ?_);rintro e w2 ⟨rfl,rfl⟩) | (go_at_call 88;(with_reducible refine(C2.out _).mono ?_);rintro e w2 ⟨rfl,rfl⟩))
     go_ret
     exact⟨by rw [HX.out];rfl,HW.out⟩
   have b5:decide (64<locals)=false:=decide_eq_false h5
   by_cases h6:locals<nd
   ·have HX:=Lib.hid (show R=true by rw [HR1.out,if_pos (.inr (.inr (.inr (.inr (.inr (h6))))))])
    cases st with
    |true=>
     have b6:decide (locals< (args.size:Int))=true:=by have h7:=HND.out;rw [if_pos rfl] at h7;rw [←h7];exact decide_eq_true h6
     clear h2 h3 h4 h5 h6
     go_enter Tryz.func109,Tryz.ntmps109
     go_wp2_with (first| (go_at_call 88;(with_reducible refine(C1.out _).mono ?_);rintro e w2 ⟨rfl,rfl⟩) | (go_at_call 88;(with_reducible refine(C2.out _).mono ?_);rintro e w2 ⟨rfl,rfl⟩))
     go_ret
     exact⟨by rw [HX.out];rfl,HW.out⟩
    |false=>
     have b6:decide (locals< (args.size:Int)+1)=true:=by have h7:=HND.out;rw [if_neg (by decide)] at h7;rw [←h7];exact decide_eq_true h6
     clear h2 h3 h4 h5 h6
     go_enter Tryz.func109,Tryz.ntmps109
     go_wp2_with (first| (go_at_call 88;(with_reducible refine(C1.out _).mono ?_);rintro e w2 ⟨rfl,rfl⟩) | (go_at_call 88;(with_reducible refine(C2.out _).mono ?_);rintro e w2 ⟨rfl,rfl⟩))
     go_ret
     exact⟨by rw [HX.out];rfl,HW.out⟩
   have HX:=Lib.hid (show R=traps.any (trapBad n) by rw [HR1.out,if_neg (by omega)])
   cases st with
   |true=>
    have b6:decide (locals< (args.size:Int))=false:=by have h7:=HND.out;rw [if_pos rfl] at h7;rw [←h7];exact decide_eq_false h6
    clear h2 h3 h4 h5 h6 HR1
    go_enter Tryz.func109,Tryz.ntmps109
    go_wp2_with (first| (go_at_call 88;(with_reducible refine(C1.out _).mono ?_);rintro e w2 ⟨rfl,rfl⟩) | (go_at_call 88;(with_reducible refine(C2.out _).mono ?_);rintro e w2 ⟨rfl,rfl⟩))
    clear b1 b2 b3 b4 b5 b6
    go_loopw [62] (fun i wr=> ∃k:Nat,k≤traps.length∧i= .int .i64 k∧Hid (Below w.heap.size w wr)∧Hid (R=(traps.drop k).any (trapBad n))) (fun i _=>traps.length - (RowKit.intOf i).toNat)
    case atStart=>exact⟨0,by omega,rfl,HW,Lib.hid (by rw [HX.out,List.drop_zero])⟩
    case round=>
     obtain⟨k,hk,rfl,HBr,HEr⟩:=hrel
     by_cases hlt:k<traps.length
     ·obtain⟨t,ht⟩: ∃t,traps[k]?=some t:=⟨_,List.getElem?_eq_getElem hlt⟩
      obtain⟨b,off,hAt,hbl,p0,p1,p2,p3⟩:=trap_cells (HT.out.keep (Kept.of_below HBr.out)) k t ht
      subst hAt
      have HDR:=Lib.hid (show R=(trapBad n t|| (traps.drop (k+1)).any (trapBad n)) by
       rw [HEr.out,List.drop_eq_getElem_cons hlt,List.any_cons]
       congr 1
       rw [List.getElem?_eq_getElem hlt] at ht
       injection ht with ht
       rw [ht])
      have HB2:=Lib.hid (HBr.out.alloc HBr.out.size (.cells #[.int .i64 t.lo, .int .i64 t.hi, .int .i64 t.tgt, .int .i64 t.kind] 112))
      clear ht HEr HX
      by_cases q0:t.lo<0
      ·have d0:decide (t.lo<0)=true:=decide_eq_true q0
       have HY:=Lib.hid (show R=true by rw [HDR.out];unfold trapBad;rw [d0];simp)
       clear q0
       go_wp2_with fail
       go_ret
       exact⟨by rw [HY.out];rfl,HB2.out⟩
      have d0:decide (t.lo<0)=false:=decide_eq_false q0
      by_cases q1:t.hi≤t.lo
      ·have d1:decide (t.hi≤t.lo)=true:=decide_eq_true q1
       have HY:=Lib.hid (show R=true by rw [HDR.out];unfold trapBad;rw [d1];simp)
       clear q1
       go_wp2_with fail
       go_ret
       exact⟨by rw [HY.out];rfl,HB2.out⟩
      have d1:decide (t.hi≤t.lo)=false:=decide_eq_false q1
      by_cases q2:(n:Int) <t.hi
      ·have d2:decide ((n:Int) <t.hi)=true:=decide_eq_true q2
       have HY:=Lib.hid (show R=true by rw [HDR.out];unfold trapBad;rw [d2];simp)
       clear q2
       go_wp2_with fail
       go_ret
       exact⟨by rw [HY.out];rfl,HB2.out⟩
      have d2:decide ((n:Int) <t.hi)=false:=decide_eq_false q2
      by_cases q3:t.tgt<0
      ·have d3:decide (t.tgt<0)=true:=decide_eq_true q3
       have HY:=Lib.hid (show R=true by rw [HDR.out];unfold trapBad;rw [d3];simp)
       clear q3
       go_wp2_with fail
       go_ret
       exact⟨by rw [HY.out];rfl,HB2.out⟩
      have d3:decide (t.tgt<0)=false:=decide_eq_false q3
      by_cases q4:(n:Int)≤t.tgt
      ·have d4:decide ((n:Int)≤t.tgt)=true:=decide_eq_true q4
       have HY:=Lib.hid (show R=true by rw [HDR.out];unfold trapBad;rw [d4];simp)
       clear q4
       go_wp2_with fail
       go_ret
       exact⟨by rw [HY.out];rfl,HB2.out⟩
      have d4:decide ((n:Int)≤t.tgt)=false:=decide_eq_false q4
      have HY:=Lib.hid (show R=(traps.drop (k+1)).any (trapBad n) by rw [HDR.out];unfold trapBad;rw [d0,d1,d2,d3,d4];rfl)
      clear q0 q1 q2 q3 q4
      go_wp2_with fail
      go_roundw
      case rel=>exact⟨k+1,by omega,by go_num,HB2,HY⟩
      case measure=>simp [RowKit.intOf];omega
     ·have HY:=Lib.hid (show R=false by rw [HEr.out,List.drop_of_length_le (by omega)];rfl)
      go_wp2_with fail
      go_ret
      exact⟨by rw [HY.out];rfl,HBr.out⟩
   |false=>
    have b6:decide (locals< (args.size:Int)+1)=false:=by have h7:=HND.out;rw [if_neg (by decide)] at h7;rw [←h7];exact decide_eq_false h6
    clear h2 h3 h4 h5 h6 HR1
    go_enter Tryz.func109,Tryz.ntmps109
    go_wp2_with (first| (go_at_call 88;(with_reducible refine(C1.out _).mono ?_);rintro e w2 ⟨rfl,rfl⟩) | (go_at_call 88;(with_reducible refine(C2.out _).mono ?_);rintro e w2 ⟨rfl,rfl⟩))
    clear b1 b2 b3 b4 b5 b6
    go_loopw [62] (fun i wr=> ∃k:Nat,k≤traps.length∧i= .int .i64 k∧Hid (Below w.heap.size w wr)∧Hid (R=(traps.drop k).any (trapBad n))) (fun i _=>traps.length - (RowKit.intOf i).toNat)
    case atStart=>exact⟨0,by omega,rfl,HW,Lib.hid (by rw [HX.out,List.drop_zero])⟩
    case round=>
     obtain⟨k,hk,rfl,HBr,HEr⟩:=hrel
     by_cases hlt:k<traps.length
     ·obtain⟨t,ht⟩: ∃t,traps[k]?=some t:=⟨_,List.getElem?_eq_getElem hlt⟩
      obtain⟨b,off,hAt,hbl,p0,p1,p2,p3⟩:=trap_cells (HT.out.keep (Kept.of_below HBr.out)) k t ht
      subst hAt
      have HDR:=Lib.hid (show R=(trapBad n t|| (traps.drop (k+1)).any (trapBad n)) by
       rw [HEr.out,List.drop_eq_getElem_cons hlt,List.any_cons]
       congr 1
       rw [List.getElem?_eq_getElem hlt] at ht
       injection ht with ht
       rw [ht])
      have HB2:=Lib.hid (HBr.out.alloc HBr.out.size (.cells #[.int .i64 t.lo, .int .i64 t.hi, .int .i64 t.tgt, .int .i64 t.kind] 112))
      clear ht HEr HX
      by_cases q0:t.lo<0
      ·have d0:decide (t.lo<0)=true:=decide_eq_true q0
       have HY:=Lib.hid (show R=true by rw [HDR.out];unfold trapBad;rw [d0];simp)
       clear q0
       go_wp2_with fail
       go_ret
       exact⟨by rw [HY.out];rfl,HB2.out⟩
      have d0:decide (t.lo<0)=false:=decide_eq_false q0
      by_cases q1:t.hi≤t.lo
      ·have d1:decide (t.hi≤t.lo)=true:=decide_eq_true q1
       have HY:=Lib.hid (show R=true by rw [HDR.out];unfold trapBad;rw [d1];simp)
       clear q1
       go_wp2_with fail
       go_ret
       exact⟨by rw [HY.out];rfl,HB2.out⟩
      have d1:decide (t.hi≤t.lo)=false:=decide_eq_false q1
      by_cases q2:(n:Int) <t.hi
      ·have d2:decide ((n:Int) <t.hi)=true:=decide_eq_true q2
       have HY:=Lib.hid (show R=true by rw [HDR.out];unfold trapBad;rw [d2];simp)
       clear q2
       go_wp2_with fail
       go_ret
       exact⟨by rw [HY.out];rfl,HB2.out⟩
      have d2:decide ((n:Int) <t.hi)=false:=decide_eq_false q2
      by_cases q3:t.tgt<0
      ·have d3:decide (t.tgt<0)=true:=decide_eq_true q3
       have HY:=Lib.hid (show R=true by rw [HDR.out];unfold trapBad;rw [d3];simp)
       clear q3
       go_wp2_with fail
       go_ret
       exact⟨by rw [HY.out];rfl,HB2.out⟩
      have d3:decide (t.tgt<0)=false:=decide_eq_false q3
      by_cases q4:(n:Int)≤t.tgt
      ·have d4:decide ((n:Int)≤t.tgt)=true:=decide_eq_true q4
       have HY:=Lib.hid (show R=true by rw [HDR.out];unfold trapBad;rw [d4];simp)
       clear q4
       go_wp2_with fail
       go_ret
       exact⟨by rw [HY.out];rfl,HB2.out⟩
      have d4:decide ((n:Int)≤t.tgt)=false:=decide_eq_false q4
      have HY:=Lib.hid (show R=(traps.drop (k+1)).any (trapBad n) by rw [HDR.out];unfold trapBad;rw [d0,d1,d2,d3,d4];rfl)
      clear q0 q1 q2 q3 q4
      go_wp2_with fail
      go_roundw
      case rel=>exact⟨k+1,by omega,by go_num,HB2,HY⟩
      case measure=>simp [RowKit.intOf];omega
     ·have HY:=Lib.hid (show R=false by rw [HEr.out,List.drop_of_length_le (by omega)];rfl)
      go_wp2_with fail
      go_ret
      exact⟨by rw [HY.out];rfl,HBr.out⟩
end Go.Proofs.YtlcidkiplidamaaGreatDoor
