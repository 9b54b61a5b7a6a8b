/-
  What the laws rest on, part 6: walks of the program's functions and plain laws. Conditions: none but those that each theorem names.
-/
import Derived.Test.YtlcidkiplidamaaGreatDoorB00
import Derived.Test.YtlcidkiplidamaaGreatDoorB05
import Derived.Test.YtlcidkiplidamaaGreatDoorB04
set_option linter.unusedSimpArgs false
set_option linter.unusedVariables false
set_option maxRecDepth 100000
set_option maxHeartbeats 4000000
namespace Go.Proofs.YtlcidkiplidamaaGreatDoor
open Go Go.RowKit Lib
def cqQ (pool:List Ko) (tag a b:Int):Int:=match aqq pool a 7,dqC pool b with
 |some _,some (nm,d)=>if tag=9 then(if aqx d.data.toList=false then 22 else if bqr nm.data.toList=false then 21 else 0)
  else if(aqk d).2.2=false then 22 else if nm.data.toList=bqM∨(nm.data.toList=dqN∧(tag=11∨(aqk d).2.1.data.toList≠ [86])) then 21 else 0
 |_,_=>20
theorem gqm {pool:List Ko} {n:Int} {x y:ByteArray} (h:dqC pool n=some (x,y)) (ht: ∀k∈pool,k.text.size≤65536):x.size≤65536∧y.size≤65536:=by
 unfold dqC at h
 rcases hk:aqq pool n 12 with _|k
 ·rw [hk] at h;cases h
 rw [hk] at h
 simp only [Option.bind_some] at h
 rcases hx:aqg pool k.a with _|sx
 ·rw [hx] at h;cases h
 rw [hx] at h
 simp only [Option.bind_some] at h
 rcases hy:aqg pool k.b with _|sy
 ·rw [hy] at h;cases h
 rw [hy] at h
 simp only [Option.map_some,Option.some.injEq,Prod.mk.injEq] at h
 obtain⟨rfl,rfl⟩:=h
 exact⟨cqd hx ht,cqd hy ht⟩
theorem hqU (c:aqj) (A:Option Addr) (cap:Nat) (ifs flds mths:Value) (ok:Nat→Prop) (tag:Int) (tx:ByteArray) (nu a b:Int) (w:World) (h:aqQ w ok c A cap ifs flds mths) (hn:bqF a) (hn2:bqF b) (hf: ∀k∈c.pool,bqF k.a∧bqF k.b) (ht: ∀k∈c.pool,k.text.size≤65536) (htag:tag=9∨tag=10∨tag=11):
  Calls Tryz.prog 81 #[bqp c (.slice A c.pool.length cap) ifs flds mths,koV ⟨tag,tx,nu,a,b⟩] w fun e w'=>e= .returned (.int .i64 (cqQ c.pool tag a b))∧Below w.heap.size w w':=by
 have HW0:=Hq (((Below.refl w.heap.size w).alloc (Nat.le_refl _) (.cells #[.int .i64 c.minor, .int .i64 c.major, .slice A c.pool.length cap, .int .i64 c.acc, .int .i64 c.this, .int .i64 c.sup,ifs,flds,mths] 94)).alloc (by simp) (.cells #[.int .i64 tag, .string tx, .int .i64 nu, .int .i64 a, .int .i64 b] 33))
 have X0:=Hq ((aqo w [.int .i64 c.minor, .int .i64 c.major, .slice A c.pool.length cap, .int .i64 c.acc, .int .i64 c.this, .int .i64 c.sup,ifs,flds,mths] 94).below ((Below.refl (w.heap.size+1) (w.alloc (.cells #[.int .i64 c.minor, .int .i64 c.major, .slice A c.pool.length cap, .int .i64 c.acc, .int .i64 c.this, .int .i64 c.sup,ifs,flds,mths] 94))).alloc (by simp) (.cells #[.int .i64 tag, .string tx, .int .i64 nu, .int .i64 a, .int .i64 b] 33)) (by omega))
 have Y0:=Hq (aqo (w.alloc (.cells #[.int .i64 c.minor, .int .i64 c.major, .slice A c.pool.length cap, .int .i64 c.acc, .int .i64 c.this, .int .i64 c.sup,ifs,flds,mths] 94)) [.int .i64 tag, .string tx, .int .i64 nu, .int .i64 a, .int .i64 b] 33)
 have hz0:((w.alloc (.cells #[.int .i64 c.minor, .int .i64 c.major, .slice A c.pool.length cap, .int .i64 c.acc, .int .i64 c.this, .int .i64 c.sup,ifs,flds,mths] 94)).alloc (.cells #[.int .i64 tag, .string tx, .int .i64 nu, .int .i64 a, .int .i64 b] 33)).heap.size=w.heap.size+2:=by simp
 have H0:=Hq (h.below HW0.out)
 simp only [World.size_alloc] at Y0
 have HN:=Hq hn
 have HN2:=Hq hn2
 have HF:=Hq hf
 obtain⟨E,hE⟩: ∃E,cqQ c.pool tag a b=E:=⟨_,rfl⟩
 rw [hE]
 rcases hka:aqq c.pool a 7 with _|ka
 ·rcases hnb:dqC c.pool b with _|nb
  ·have HP:=Hq (show E=20 by rw [←hE];unfold cqQ;rw [hka,hnb])
   have HKA:=Hq hka
   have HNB:=Hq hnb
   have HK:=Hq (fun W=>cqb ⟨#[]⟩ W (by decide))
   clear h hn hn2 hf hka hnb hE
   rw [aqe]
   simp only [koV]
   go_enter Tryz.func81,Tryz.ntmps81
   go_wp2_with (go_at_call 85;refine(cqc c A cap ifs flds mths a 7 ok _ H0.out.hp H0.out.h1 H0.out.h2 H0.out.h3 HN.out.2 HN.out.1).mono ?_;rw [HKA.out];rintro e w1 ⟨rfl,hb⟩;simp only [bqm,koV,Option.getD_none,Option.getD_some,Option.isSome_none,Option.isSome_some,bqa];refine aqa ?_)
   have hz1:=hb.size
   rw [hz0] at hz1
   have hba:=hb.trans ((Below.refl w1.heap.size w1).alloc (Nat.le_refl _) (.cells #[.int .i64 0, .string ⟨#[]⟩, .int .i64 0, .int .i64 0, .int .i64 0] 33) |>.mono hb.size)
   have X1:=Hq (X0.out.below hba (by omega))
   have Y1:=Hq (Y0.out.below hba (by omega))
   have H1:=Hq (H0.out.below hba)
   have W1:=Hq (HW0.out.trans (hba.mono (by omega)))
   have hz1':(w1.alloc (.cells #[.int .i64 0, .string ⟨#[]⟩, .int .i64 0, .int .i64 0, .int .i64 0] 33)).heap.size=w1.heap.size+1:=by simp
   have y4:=Y1.out.cell 4 rfl
   clear hb hba X0 Y0 H0 HW0 hz0
   refine aqb ?_
   go_wp2_with (first
    | (refine wpList_load_row rfl _ _ rfl w.heap.size rfl _ _ _ _ X1.out Tryz.underlying94 rfl (by kernel_rfl) ?_)
    | (go_at_call 156;refine aqa ?_))
   refine aqb ?_
   refine(dq7 c A cap ifs flds mths b ok _ H1.out HN2.out HF.out).mono ?_
   rw [HNB.out]
   rintro e w2 ⟨rfl,hb2⟩
   simp only [kqK,Option.map_none,Option.map_some,Option.getD_none,Option.getD_some,Option.isSome_none,Option.isSome_some]
   have hz2:=hb2.size
   rw [hz1'] at hz2
   have Y2:=Hq (Y1.out.below hb2 Y1.out.lt)
   have W2:=Hq (W1.out.trans (hb2.mono W1.out.size))
   have y0:=Y2.out.cell 0 rfl
   clear hb2 X1 Y1 H1 W1
   rcases htag with rfl|rfl|rfl
   all_goals
    go_wp2_with (go_at_call 99;refine(HK.out _).mono ?_;rintro e w3 ⟨rfl,hb3⟩;have W3:=Hq (W2.out.trans (hb3.mono W2.out.size));have Y3:=Hq (Y2.out.below hb3 Y2.out.lt);have y03:=Y3.out.cell 0 rfl;clear hb3)
    go_ret
    exact⟨by rw [HP.out];rfl,W3.out⟩
  obtain⟨nm,d⟩:=nb
  obtain⟨l1,l2⟩:=gqm hnb ht
  have HP:=Hq (show E=20 by rw [←hE];unfold cqQ;rw [hka,hnb])
  have HKA:=Hq hka
  have HNB:=Hq hnb
  have HK:=Hq (fun W=>cqb d W (by omega))
  clear h hn hn2 hf hka hnb hE
  rw [aqe]
  simp only [koV]
  go_enter Tryz.func81,Tryz.ntmps81
  go_wp2_with (go_at_call 85;refine(cqc c A cap ifs flds mths a 7 ok _ H0.out.hp H0.out.h1 H0.out.h2 H0.out.h3 HN.out.2 HN.out.1).mono ?_;rw [HKA.out];rintro e w1 ⟨rfl,hb⟩;simp only [bqm,koV,Option.getD_none,Option.getD_some,Option.isSome_none,Option.isSome_some,bqa];refine aqa ?_)
  have hz1:=hb.size
  rw [hz0] at hz1
  have hba:=hb.trans ((Below.refl w1.heap.size w1).alloc (Nat.le_refl _) (.cells #[.int .i64 0, .string ⟨#[]⟩, .int .i64 0, .int .i64 0, .int .i64 0] 33) |>.mono hb.size)
  have X1:=Hq (X0.out.below hba (by omega))
  have Y1:=Hq (Y0.out.below hba (by omega))
  have H1:=Hq (H0.out.below hba)
  have W1:=Hq (HW0.out.trans (hba.mono (by omega)))
  have hz1':(w1.alloc (.cells #[.int .i64 0, .string ⟨#[]⟩, .int .i64 0, .int .i64 0, .int .i64 0] 33)).heap.size=w1.heap.size+1:=by simp
  have y4:=Y1.out.cell 4 rfl
  clear hb hba X0 Y0 H0 HW0 hz0
  refine aqb ?_
  go_wp2_with (first
   | (refine wpList_load_row rfl _ _ rfl w.heap.size rfl _ _ _ _ X1.out Tryz.underlying94 rfl (by kernel_rfl) ?_)
   | (go_at_call 156;refine aqa ?_))
  refine aqb ?_
  refine(dq7 c A cap ifs flds mths b ok _ H1.out HN2.out HF.out).mono ?_
  rw [HNB.out]
  rintro e w2 ⟨rfl,hb2⟩
  simp only [kqK,Option.map_none,Option.map_some,Option.getD_none,Option.getD_some,Option.isSome_none,Option.isSome_some]
  have hz2:=hb2.size
  rw [hz1'] at hz2
  have Y2:=Hq (Y1.out.below hb2 Y1.out.lt)
  have W2:=Hq (W1.out.trans (hb2.mono W1.out.size))
  have y0:=Y2.out.cell 0 rfl
  clear hb2 X1 Y1 H1 W1
  rcases htag with rfl|rfl|rfl
  all_goals
   go_wp2_with (go_at_call 99;refine(HK.out _).mono ?_;rintro e w3 ⟨rfl,hb3⟩;have W3:=Hq (W2.out.trans (hb3.mono W2.out.size));have Y3:=Hq (Y2.out.below hb3 Y2.out.lt);have y03:=Y3.out.cell 0 rfl;clear hb3)
   go_ret
   exact⟨by rw [HP.out];rfl,W3.out⟩
 rcases hnb:dqC c.pool b with _|nb
 ·have HP:=Hq (show E=20 by rw [←hE];unfold cqQ;rw [hka,hnb])
  have HKA:=Hq hka
  have HNB:=Hq hnb
  have HK:=Hq (fun W=>cqb ⟨#[]⟩ W (by decide))
  clear h hn hn2 hf hka hnb hE
  rw [aqe]
  simp only [koV]
  go_enter Tryz.func81,Tryz.ntmps81
  go_wp2_with (go_at_call 85;refine(cqc c A cap ifs flds mths a 7 ok _ H0.out.hp H0.out.h1 H0.out.h2 H0.out.h3 HN.out.2 HN.out.1).mono ?_;rw [HKA.out];rintro e w1 ⟨rfl,hb⟩;simp only [bqm,koV,Option.getD_none,Option.getD_some,Option.isSome_none,Option.isSome_some,bqa];refine aqa ?_)
  have hz1:=hb.size
  rw [hz0] at hz1
  have hba:=hb.trans ((Below.refl w1.heap.size w1).alloc (Nat.le_refl _) (.cells #[.int .i64 ka.tag, .string ka.text, .int .i64 ka.num, .int .i64 ka.a, .int .i64 ka.b] 33) |>.mono hb.size)
  have X1:=Hq (X0.out.below hba (by omega))
  have Y1:=Hq (Y0.out.below hba (by omega))
  have H1:=Hq (H0.out.below hba)
  have W1:=Hq (HW0.out.trans (hba.mono (by omega)))
  have hz1':(w1.alloc (.cells #[.int .i64 ka.tag, .string ka.text, .int .i64 ka.num, .int .i64 ka.a, .int .i64 ka.b] 33)).heap.size=w1.heap.size+1:=by simp
  have y4:=Y1.out.cell 4 rfl
  clear hb hba X0 Y0 H0 HW0 hz0
  refine aqb ?_
  go_wp2_with (first
   | (refine wpList_load_row rfl _ _ rfl w.heap.size rfl _ _ _ _ X1.out Tryz.underlying94 rfl (by kernel_rfl) ?_)
   | (go_at_call 156;refine aqa ?_))
  refine aqb ?_
  refine(dq7 c A cap ifs flds mths b ok _ H1.out HN2.out HF.out).mono ?_
  rw [HNB.out]
  rintro e w2 ⟨rfl,hb2⟩
  simp only [kqK,Option.map_none,Option.map_some,Option.getD_none,Option.getD_some,Option.isSome_none,Option.isSome_some]
  have hz2:=hb2.size
  rw [hz1'] at hz2
  have Y2:=Hq (Y1.out.below hb2 Y1.out.lt)
  have W2:=Hq (W1.out.trans (hb2.mono W1.out.size))
  have y0:=Y2.out.cell 0 rfl
  clear hb2 X1 Y1 H1 W1
  rcases htag with rfl|rfl|rfl
  all_goals
   go_wp2_with (go_at_call 99;refine(HK.out _).mono ?_;rintro e w3 ⟨rfl,hb3⟩;have W3:=Hq (W2.out.trans (hb3.mono W2.out.size));have Y3:=Hq (Y2.out.below hb3 Y2.out.lt);have y03:=Y3.out.cell 0 rfl;clear hb3)
   go_ret
   exact⟨by rw [HP.out];rfl,W3.out⟩
 obtain⟨nm,d⟩:=nb
 obtain⟨l1,l2⟩:=gqm hnb ht
 obtain⟨m1,h1⟩: ∃m,bqr nm.data.toList=m:=⟨_,rfl⟩
 obtain⟨m2,h2⟩: ∃m,aqx d.data.toList=m:=⟨_,rfl⟩
 obtain⟨⟨ka1,ret,is⟩,h3⟩: ∃v,aqk d=v:=⟨_,rfl⟩
 have C1:=Hq (fun W=>eqU nm W (by omega))
 have C2:=Hq (fun W=>dqe d W (by omega))
 rw [h1] at C1
 rw [h2] at C2
 obtain⟨b1,hb1⟩: ∃m,m=(nm.data.toList==bqM):=⟨_,rfl⟩
 obtain⟨b2,hb2'⟩: ∃m,m=(nm.data.toList==dqN):=⟨_,rfl⟩
 obtain⟨b3,hb3'⟩: ∃m,m=(ret.data.toList== [86]):=⟨_,rfl⟩
 have e1:(nm.toList== [60,99,108,105,110,105,116,62])=b1:=by rw [ByteArray.toList_eq,hb1];rfl
 have e2:(nm.toList== [60,105,110,105,116,62])=b2:=by rw [ByteArray.toList_eq,hb2'];rfl
 have e3:(ret.toList== [86])=b3:=by rw [ByteArray.toList_eq,hb3']
 have HP:=Hq (show E=if tag=9 then(if m2=false then 22 else if m1=false then 21 else 0) else if is=false then 22 else if b1=true∨(b2=true∧(tag=11∨b3=false)) then 21 else 0 by
  rw [←hE]
  unfold cqQ
  rw [hka,hnb]
  simp only [h1,h2,h3]
  have k1:(nm.data.toList=bqM)↔b1=true:=by rw [hb1];simp
  have k2:(nm.data.toList=dqN)↔b2=true:=by rw [hb2'];simp
  have k3:(ret.data.toList≠ [86])↔b3=false:=by rw [hb3'];simp
  simp only [k1,k2,k3])
 clear hb1 hb2' hb3' h1 h2
 have HKA:=Hq hka
 have HNB:=Hq hnb
 have HK:=Hq (fun W=>cqb d W (by omega))
 rw [h3] at HK
 clear h hn hn2 hf hka hnb hE h3
 rw [aqe]
 simp only [koV]
 go_enter Tryz.func81,Tryz.ntmps81
 go_wp2_with (go_at_call 85;refine(cqc c A cap ifs flds mths a 7 ok _ H0.out.hp H0.out.h1 H0.out.h2 H0.out.h3 HN.out.2 HN.out.1).mono ?_;rw [HKA.out];rintro e w1 ⟨rfl,hb⟩;simp only [bqm,koV,Option.getD_none,Option.getD_some,Option.isSome_none,Option.isSome_some,bqa];refine aqa ?_)
 have hz1:=hb.size
 rw [hz0] at hz1
 have hba:=hb.trans ((Below.refl w1.heap.size w1).alloc (Nat.le_refl _) (.cells #[.int .i64 ka.tag, .string ka.text, .int .i64 ka.num, .int .i64 ka.a, .int .i64 ka.b] 33) |>.mono hb.size)
 have X1:=Hq (X0.out.below hba (by omega))
 have Y1:=Hq (Y0.out.below hba (by omega))
 have H1:=Hq (H0.out.below hba)
 have W1:=Hq (HW0.out.trans (hba.mono (by omega)))
 have hz1':(w1.alloc (.cells #[.int .i64 ka.tag, .string ka.text, .int .i64 ka.num, .int .i64 ka.a, .int .i64 ka.b] 33)).heap.size=w1.heap.size+1:=by simp
 have y4:=Y1.out.cell 4 rfl
 clear hb hba X0 Y0 H0 HW0 hz0
 refine aqb ?_
 go_wp2_with (first
  | (refine wpList_load_row rfl _ _ rfl w.heap.size rfl _ _ _ _ X1.out Tryz.underlying94 rfl (by kernel_rfl) ?_)
  | (go_at_call 156;refine aqa ?_))
 refine aqb ?_
 refine(dq7 c A cap ifs flds mths b ok _ H1.out HN2.out HF.out).mono ?_
 rw [HNB.out]
 rintro e w2 ⟨rfl,hb2⟩
 simp only [kqK,Option.map_none,Option.map_some,Option.getD_none,Option.getD_some,Option.isSome_none,Option.isSome_some]
 have hz2:=hb2.size
 rw [hz1'] at hz2
 have Y2:=Hq (Y1.out.below hb2 Y1.out.lt)
 have W2:=Hq (W1.out.trans (hb2.mono W1.out.size))
 have y0:=Y2.out.cell 0 rfl
 clear hb2 X1 Y1 H1 W1
 rcases htag with rfl|rfl|rfl
 ·rw [if_pos rfl] at HP
  cases m2<;>cases m1
  all_goals
   go_wp2_with (first
    | (go_at_call 99;refine(HK.out _).mono ?_;rintro e w3 ⟨rfl,hb3⟩;have W3:=Hq (W2.out.trans (hb3.mono W2.out.size));have Y3:=Hq (Y2.out.below hb3 Y2.out.lt);have y03:=Y3.out.cell 0 rfl;clear hb3)
    | (go_at_call 79;refine(C2.out _).mono ?_;rintro e w4 ⟨rfl,hb4⟩;have W4:=Hq (W3.out.trans (hb4.mono W3.out.size));clear hb4)
    | (go_at_call 93;refine(C1.out _).mono ?_;rintro e w5 ⟨rfl,hb5⟩;have W5:=Hq (W4.out.trans (hb5.mono W4.out.size));clear hb5))
   go_ret
   exact⟨by rw [HP.out];rfl,by first|exact W5.out|exact W4.out⟩
 ·cases is
  ·go_wp2_with (go_at_call 99;refine(HK.out _).mono ?_;rintro e w3 ⟨rfl,hb3⟩;have W3:=Hq (W2.out.trans (hb3.mono W2.out.size));have Y3:=Hq (Y2.out.below hb3 Y2.out.lt);have y03:=Y3.out.cell 0 rfl;clear hb3)
   go_ret
   exact⟨by rw [HP.out];rfl,W3.out⟩
  cases b1<;>cases b2<;>cases b3
  all_goals
   go_wp2_with (go_at_call 99;refine(HK.out _).mono ?_;rintro e w3 ⟨rfl,hb3⟩;have W3:=Hq (W2.out.trans (hb3.mono W2.out.size));have Y3:=Hq (Y2.out.below hb3 Y2.out.lt);have y03:=Y3.out.cell 0 rfl;clear hb3)
   go_ret
   exact⟨by rw [HP.out];rfl,W3.out⟩
 cases is
 ·go_wp2_with (go_at_call 99;refine(HK.out _).mono ?_;rintro e w3 ⟨rfl,hb3⟩;have W3:=Hq (W2.out.trans (hb3.mono W2.out.size));have Y3:=Hq (Y2.out.below hb3 Y2.out.lt);have y03:=Y3.out.cell 0 rfl;clear hb3)
  go_ret
  exact⟨by rw [HP.out];rfl,W3.out⟩
 cases b1<;>cases b2<;>cases b3
 all_goals
  go_wp2_with (go_at_call 99;refine(HK.out _).mono ?_;rintro e w3 ⟨rfl,hb3⟩;have W3:=Hq (W2.out.trans (hb3.mono W2.out.size));have Y3:=Hq (Y2.out.below hb3 Y2.out.lt);have y03:=Y3.out.cell 0 rfl;clear hb3)
  go_ret
  exact⟨by rw [HP.out];rfl,W3.out⟩
theorem dqS (c:aqj) (A:Option Addr) (cap:Nat) (ifs flds mths:Value) (ok:Nat→Prop) (tag:Int) (tx:ByteArray) (nu a b:Int) (w:World) (h:aqQ w ok c A cap ifs flds mths) (hn:bqF a) (hn2:bqF b) (hf: ∀k∈c.pool,bqF k.a∧bqF k.b) (ht: ∀k∈c.pool,k.text.size≤65536) (htag:tag=9∨tag=10∨tag=11):
  Calls Tryz.prog 36 #[bqp c (.slice A c.pool.length cap) ifs flds mths,koV ⟨tag,tx,nu,a,b⟩] w fun e w'=>e= .returned (.int .i64 (cqQ c.pool tag a b))∧Below w.heap.size w w':=by
 have HW0:=Hq (((Below.refl w.heap.size w).alloc (Nat.le_refl _) (.cells #[.int .i64 c.minor, .int .i64 c.major, .slice A c.pool.length cap, .int .i64 c.acc, .int .i64 c.this, .int .i64 c.sup,ifs,flds,mths] 94)).alloc (by simp) (.cells #[.int .i64 tag, .string tx, .int .i64 nu, .int .i64 a, .int .i64 b] 33))
 have HM:=Hq (fun W (hW:aqQ W ok c A cap ifs flds mths)=>hqU c A cap ifs flds mths ok tag tx nu a b W hW hn hn2 hf ht htag)
 have H0:=Hq (h.below HW0.out)
 have X0:=Hq ((aqo w [.int .i64 c.minor, .int .i64 c.major, .slice A c.pool.length cap, .int .i64 c.acc, .int .i64 c.this, .int .i64 c.sup,ifs,flds,mths] 94).below ((Below.refl (w.heap.size+1) (w.alloc (.cells #[.int .i64 c.minor, .int .i64 c.major, .slice A c.pool.length cap, .int .i64 c.acc, .int .i64 c.this, .int .i64 c.sup,ifs,flds,mths] 94))).alloc (by simp) (.cells #[.int .i64 tag, .string tx, .int .i64 nu, .int .i64 a, .int .i64 b] 33)) (by omega))
 clear h hn hn2 hf ht
 rw [aqe] at HM⊢
 simp only [koV] at HM⊢
 rcases htag with rfl|rfl|rfl
 all_goals
  go_enter Tryz.func36,Tryz.ntmps36
  go_wp2_with (first
   | (refine wpList_load_row rfl _ _ rfl w.heap.size rfl _ _ _ _ X0.out Tryz.underlying94 rfl (by kernel_rfl) ?_)
   | (go_at_call 81;refine(HM.out _ H0.out).mono ?_;rintro e w1 ⟨rfl,hb⟩;have HB:=Hq (HW0.out.trans (hb.mono (by simp;omega)));clear hb))
  go_ret
  exact⟨rfl,HB.out⟩
set_option maxHeartbeats 2000000
def kqM (acc f:Int):Nat:=if aqD acc f=true then 1 else 0
def dqJ (acc:Int):Nat:=kqM acc 1+kqM acc 2+kqM acc 4
def gq7:Nat→Int
 |0=>1
 |1=>2
 |_=>4
def gq8 (acc:Int):Nat→Nat
 |0=>0
 |k+1=>gq8 acc k+kqM acc (gq7 k)
theorem jqo (acc:Int):gq8 acc 3=dqJ acc:=by simp [gq8,dqJ,gq7]
theorem kqN (acc:Int): ∀k,gq8 acc k≤k
 |0=>Nat.le_refl _
 |k+1=>by
  have:=kqN acc k
  unfold gq8 kqM
  split<;>omega
theorem gq9 (acc:Int) (w:World):Calls Tryz.prog 96 #[.int .i64 acc] w fun e w'=>e= .returned (.int .i64 (dqJ acc))∧Below w.heap.size w w':=by
 have X0:=Hq (aqo w [.int .i64 1, .int .i64 2, .int .i64 4] 3)
 have HW:=Hq ((Below.refl w.heap.size w).alloc (Nat.le_refl _) (.cells #[.int .i64 1, .int .i64 2, .int .i64 4] 3))
 go_enter Tryz.func96,Tryz.ntmps96
 go_wp2_with fail
 go_loop [3,8] (fun n i=> ∃k:Nat,k≤3∧i= .int .i64 k∧n= .int .i64 (gq8 acc k)) (fun _ i=>3 - (RowKit.intOf i).toNat)
 case atStart=>exact⟨0,by omega,rfl,rfl⟩
 case round=>
  obtain⟨k,hk,rfl,rfl⟩:=hrel
  have hu:=kqN acc k
  by_cases h3:k=3
  ·subst h3
   go_wp2_with fail
   go_ret
   exact⟨by rw [jqo];rfl,HW.out⟩
  have hlt:((k:Int) <3)=True:=by simp;omega
  have cc:(w.alloc (.cells #[.int .i64 1, .int .i64 2, .int .i64 4] 3)).cell? ⟨w.heap.size,k,none⟩=some (.int .i64 (gq7 k)):=by
   have:k=0∨k=1∨k=2:=by omega
   rcases this with rfl|rfl|rfl
   ·exact X0.out.cell 0 rfl
   ·exact X0.out.cell 1 rfl
   exact X0.out.cell 2 rfl
  have HU:=Hq (show gq8 acc (k+1)=gq8 acc k+kqM acc (gq7 k) from rfl)
  obtain⟨F,hF⟩: ∃F,gq7 k=F:=⟨_,rfl⟩
  rw [hF] at cc HU
  clear hF
  by_cases hb:aqD acc F=true
  ·have hb':(bits .and .i64 acc F !=0)=true:=hb
   have HN:=Hq (show kqM acc F=1 by unfold kqM;rw [if_pos hb])
   go_wp2_with fail
   go_round
   case rel=>exact⟨k+1,by omega,by go_num,by rw [HU.out,HN.out];go_num⟩
   case measure=>simp [RowKit.intOf];omega
  have hb':(bits .and .i64 acc F !=0)=false:=by simpa [aqD] using hb
  have HN:=Hq (show kqM acc F=0 by unfold kqM;rw [if_neg hb])
  go_wp2_with fail
  go_round
  case rel=>exact⟨k+1,by omega,by go_num,by rw [HU.out,HN.out];rfl⟩
  case measure=>simp [RowKit.intOf];omega
abbrev cqz (W:World) (p:Nat) (v:Value):Prop:=W.cell? ⟨p,0,none⟩=some v
theorem cqz.alloc {W:World} {p:Nat} {v:Value} (h:cqz W p v) (hp:p<W.heap.size) (o:Obj):cqz (W.alloc o) p v:=(World.cell?_alloc_lt W o ⟨p,0,none⟩ hp).trans h
theorem hqV (x:aqB) (p1 p2:Nat) (b1 b2:Bool) (w:World) (h1:cqz w p1 (.bool b1)) (h2:cqz w p2 (.bool b2)) (l1:p1<w.heap.size) (l2:p2<w.heap.size):
  Calls Tryz.prog 91 #[cqi x, .pointer (some ⟨p1,0,none⟩), .pointer (some ⟨p2,0,none⟩)] w fun e w'=>e= .returned (.bool (!b1|| !b2))∧Below w.heap.size w w':=by
 have k1:=h1.alloc l1 (.cells #[.int .i64 x.acc, .int .i64 x.name, .int .i64 x.desc, .int .i64 x.value] 83)
 have k2:=h2.alloc l2 (.cells #[.int .i64 x.acc, .int .i64 x.name, .int .i64 x.desc, .int .i64 x.value] 83)
 have HW:=Hq ((Below.refl w.heap.size w).alloc (Nat.le_refl _) (.cells #[.int .i64 x.acc, .int .i64 x.name, .int .i64 x.desc, .int .i64 x.value] 83))
 unfold cqi
 cases b1<;>cases b2
 all_goals
  go_enter Tryz.func91,Tryz.ntmps91
  go_wp2_with fail
  go_ret
  exact⟨rfl,HW.out⟩
theorem hqW (x:aqB) (p1:Nat) (s:ByteArray) (w:World) (h1:cqz w p1 (.string s)) (l1:p1<w.heap.size) (hs:s.size≤65536):
  Calls Tryz.prog 92 #[cqi x, .pointer (some ⟨p1,0,none⟩)] w fun e w'=>e= .returned (.bool (!bqr s.data.toList))∧Below w.heap.size w w':=by
 have k1:=h1.alloc l1 (.cells #[.int .i64 x.acc, .int .i64 x.name, .int .i64 x.desc, .int .i64 x.value] 83)
 have HW:=Hq ((Below.refl w.heap.size w).alloc (Nat.le_refl _) (.cells #[.int .i64 x.acc, .int .i64 x.name, .int .i64 x.desc, .int .i64 x.value] 83))
 have C:=Hq (fun W=>eqU s W (by omega))
 unfold cqi
 go_enter Tryz.func92,Tryz.ntmps92
 go_wp2_with (go_at_call 93;refine(C.out _).mono ?_;rintro e w1 ⟨rfl,hb⟩;have HB:=Hq (HW.out.trans (hb.mono (by simp)));clear hb)
 go_ret
 exact⟨rfl,HB.out⟩
theorem hqX (x:aqB) (p1:Nat) (s:ByteArray) (w:World) (h1:cqz w p1 (.string s)) (l1:p1<w.heap.size) (hs:s.size≤65536):
  Calls Tryz.prog 94 #[cqi x, .pointer (some ⟨p1,0,none⟩)] w fun e w'=>e= .returned (.bool (!aqx s.data.toList))∧Below w.heap.size w w':=by
 have k1:=h1.alloc l1 (.cells #[.int .i64 x.acc, .int .i64 x.name, .int .i64 x.desc, .int .i64 x.value] 83)
 have HW:=Hq ((Below.refl w.heap.size w).alloc (Nat.le_refl _) (.cells #[.int .i64 x.acc, .int .i64 x.name, .int .i64 x.desc, .int .i64 x.value] 83))
 have C:=Hq (fun W=>dqe s W (by omega))
 unfold cqi
 go_enter Tryz.func94,Tryz.ntmps94
 go_wp2_with (go_at_call 79;refine(C.out _).mono ?_;rintro e w1 ⟨rfl,hb⟩;have HB:=Hq (HW.out.trans (hb.mono (by simp)));clear hb)
 go_ret
 exact⟨rfl,HB.out⟩
def bq0 (cacc facc:Int):Bool:=decide (1<dqJ facc) || (aqD cacc 512&& !lq5 facc 25)
theorem hqY (x:aqB) (bk:Nat) (c:aqj) (pool ifs flds mths:Value) (w:World) (h1:Bx w bk [.int .i64 c.minor, .int .i64 c.major,pool, .int .i64 c.acc, .int .i64 c.this, .int .i64 c.sup,ifs,flds,mths] 94):
  Calls Tryz.prog 95 #[cqi x, .pointer (some ⟨bk,0,none⟩)] w fun e w'=>e= .returned (.bool (bq0 c.acc x.acc))∧Below w.heap.size w w':=by
 have HW:=Hq ((Below.refl w.heap.size w).alloc (Nat.le_refl _) (.cells #[.int .i64 x.acc, .int .i64 x.name, .int .i64 x.desc, .int .i64 x.value] 83))
 have HX:=Hq (h1.below HW.out h1.lt)
 have F0:=Hq (aqo w [.int .i64 x.acc, .int .i64 x.name, .int .i64 x.desc, .int .i64 x.value] 83)
 obtain⟨n,hn⟩: ∃n,dqJ x.acc=n:=⟨_,rfl⟩
 obtain⟨b2,hb2⟩: ∃b,aqD c.acc 512=b:=⟨_,rfl⟩
 obtain⟨b3,hb3⟩: ∃b,lq5 x.acc 25=b:=⟨_,rfl⟩
 have C1:=Hq (gq9 x.acc)
 have C2:=Hq (fun W=>bqU c.acc 512 W)
 have C3:=Hq (fun W=>dqA x.acc 25 W)
 rw [hn] at C1
 rw [hb2] at C2
 rw [hb3] at C3
 have HP:=Hq (show bq0 c.acc x.acc=(decide (1<n) || (b2&& !b3)) by unfold bq0;rw [hn,hb2,hb3])
 rw [HP.out]
 clear h1 hn hb2 hb3
 unfold cqi
 by_cases h1n:1<n
 ·have d1:decide ((n:Int) >1)=true:=by simp;omega
  rw [decide_eq_true h1n]
  go_enter Tryz.func95,Tryz.ntmps95
  go_wp2_with (go_at_call 96;refine(C1.out _).mono ?_;rintro e w1 ⟨rfl,hb⟩;have HB:=Hq (HW.out.trans (hb.mono (by simp)));clear hb)
  go_ret
  exact⟨by simp,HB.out⟩
 have d1:decide ((n:Int) >1)=false:=by simp;omega
 rw [decide_eq_false h1n]
 cases b2<;>cases b3
 all_goals
  go_enter Tryz.func95,Tryz.ntmps95
  go_wp2_with (first
   | (go_at_call 96;refine(C1.out _).mono ?_;rintro e w1 ⟨rfl,hb⟩;have HB:=Hq (HW.out.trans (hb.mono (by simp)));have hx3:=(HX.out.below hb HX.out.lt).cell 3 rfl;have hf0:=(F0.out.below hb (by simp)).cell 0 rfl;clear hb)
   | (go_at_call 88;refine(C2.out _).mono ?_;rintro e w2 ⟨rfl,rfl⟩)
   | (go_at_call 89;refine(C3.out _).mono ?_;rintro e w2 ⟨rfl,rfl⟩))
  go_ret
  exact⟨by simp,HB.out⟩
set_option maxHeartbeats 4000000
def cqo (pool:List Ko) (x:aqB) (d:List UInt8):Bool:=((x.value:Int) !=0)&&(!aqD x.acc 8|| !(d== [73]) || !(aqq pool x.value 3).isSome)
theorem hqZ (x:aqB) (bk p2:Nat) (d:ByteArray) (c:aqj) (A:Option Addr) (cap:Nat) (ifs flds mths:Value) (ok:Nat→Prop) (w:World) (h:aqQ w ok c A cap ifs flds mths) (h1:Bx w bk [.int .i64 c.minor, .int .i64 c.major, .slice A c.pool.length cap, .int .i64 c.acc, .int .i64 c.this, .int .i64 c.sup,ifs,flds,mths] 94) (h2:cqz w p2 (.string d)) (l2:p2<w.heap.size) (hn:bqF x.value):
  Calls Tryz.prog 98 #[cqi x, .pointer (some ⟨bk,0,none⟩), .pointer (some ⟨p2,0,none⟩)] w fun e w'=>e= .returned (.bool (cqo c.pool x d.data.toList))∧Below w.heap.size w w':=by
 have HW:=Hq ((Below.refl w.heap.size w).alloc (Nat.le_refl _) (.cells #[.int .i64 x.acc, .int .i64 x.name, .int .i64 x.desc, .int .i64 x.value] 83))
 have HX:=Hq (h1.below HW.out h1.lt)
 have F0:=Hq (aqo w [.int .i64 x.acc, .int .i64 x.name, .int .i64 x.desc, .int .i64 x.value] 83)
 have H0:=Hq (h.below HW.out)
 have K2:=Hq (h2.alloc l2 (.cells #[.int .i64 x.acc, .int .i64 x.name, .int .i64 x.desc, .int .i64 x.value] 83))
 have hz0:(w.alloc (.cells #[.int .i64 x.acc, .int .i64 x.name, .int .i64 x.desc, .int .i64 x.value] 83)).heap.size=w.heap.size+1:=by simp
 have HN:=Hq hn
 obtain⟨b1,hb1⟩: ∃b,((x.value:Int) !=0)=b:=⟨_,rfl⟩
 obtain⟨b2,hb2⟩: ∃b,aqD x.acc 8=b:=⟨_,rfl⟩
 obtain⟨b3,hb3⟩: ∃b,b=(d.data.toList== [73]):=⟨_,rfl⟩
 have e3:(d.toList== [73])=b3:=by rw [ByteArray.toList_eq,hb3]
 have C2:=Hq (fun W=>bqU x.acc 8 W)
 rw [hb2] at C2
 rcases hk:aqq c.pool x.value 3 with _|k
 ·have HK:=Hq hk
  have HP:=Hq (show cqo c.pool x d.data.toList=(b1&&(!b2|| !b3|| !(aqq c.pool x.value 3).isSome)) by unfold cqo;rw [hb1,hb2,hb3])
  rw [HP.out,hk]
  clear h h1 h2 hk hb2 hb3 hn
  unfold cqi
  cases b1<;>cases b2<;>cases b3
  all_goals
   go_enter Tryz.func98,Tryz.ntmps98
   go_wp2_with (first
    | (refine wpList_load_row rfl _ _ rfl bk rfl _ _ _ _ HX.out Tryz.underlying94 rfl (by kernel_rfl) ?_)
    | (go_at_call 85;refine(cqc c A cap ifs flds mths x.value 3 ok _ H0.out.hp H0.out.h1 H0.out.h2 H0.out.h3 HN.out.2 HN.out.1).mono ?_;rw [HK.out];rintro e w1 ⟨rfl,hb⟩;simp only [bqm,koV,Option.getD_none,Option.getD_some,Option.isSome_none,Option.isSome_some,bqa];refine aqa ?_))
   have hz1:=hb.size
   rw [hz0] at hz1
   have hba:=hb.trans ((Below.refl w1.heap.size w1).alloc (Nat.le_refl _) (.cells #[.int .i64 0, .string ⟨#[]⟩, .int .i64 0, .int .i64 0, .int .i64 0] 33) |>.mono hb.size)
   have HB:=Hq (HW.out.trans (hba.mono (by omega)))
   have f0:=(F0.out.below hba (by omega)).cell 0 rfl
   have f3:=(F0.out.below hba (by omega)).cell 3 rfl
   have d0:=(hba.cell (p:=⟨p2,0,none⟩) (show p2<_ by omega)).trans K2.out
   clear hba
   clear hb
   refine aqb ?_
   go_wp2_with (go_at_call 88;refine(C2.out _).mono ?_;rintro e w2 ⟨rfl,rfl⟩)
   go_ret
   exact⟨by simp,HB.out⟩
 have HK:=Hq hk
 have HP:=Hq (show cqo c.pool x d.data.toList=(b1&&(!b2|| !b3|| !(aqq c.pool x.value 3).isSome)) by unfold cqo;rw [hb1,hb2,hb3])
 rw [HP.out,hk]
 clear h h1 h2 hk hb2 hb3 hn
 unfold cqi
 cases b1<;>cases b2<;>cases b3
 all_goals
  go_enter Tryz.func98,Tryz.ntmps98
  go_wp2_with (first
   | (refine wpList_load_row rfl _ _ rfl bk rfl _ _ _ _ HX.out Tryz.underlying94 rfl (by kernel_rfl) ?_)
   | (go_at_call 85;refine(cqc c A cap ifs flds mths x.value 3 ok _ H0.out.hp H0.out.h1 H0.out.h2 H0.out.h3 HN.out.2 HN.out.1).mono ?_;rw [HK.out];rintro e w1 ⟨rfl,hb⟩;simp only [bqm,koV,Option.getD_none,Option.getD_some,Option.isSome_none,Option.isSome_some,bqa];refine aqa ?_))
  have hz1:=hb.size
  rw [hz0] at hz1
  have hba:=hb.trans ((Below.refl w1.heap.size w1).alloc (Nat.le_refl _) (.cells #[.int .i64 k.tag, .string k.text, .int .i64 k.num, .int .i64 k.a, .int .i64 k.b] 33) |>.mono hb.size)
  have HB:=Hq (HW.out.trans (hba.mono (by omega)))
  have f0:=(F0.out.below hba (by omega)).cell 0 rfl
  have f3:=(F0.out.below hba (by omega)).cell 3 rfl
  have d0:=(hba.cell (p:=⟨p2,0,none⟩) (show p2<_ by omega)).trans K2.out
  clear hba
  clear hb
  refine aqb ?_
  go_wp2_with (go_at_call 88;refine(C2.out _).mono ?_;rintro e w2 ⟨rfl,rfl⟩)
  go_ret
  exact⟨by simp,HB.out⟩
end Go.Proofs.YtlcidkiplidamaaGreatDoor
