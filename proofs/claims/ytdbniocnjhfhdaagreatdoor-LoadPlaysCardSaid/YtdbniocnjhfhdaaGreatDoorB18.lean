/- Part 18 of what the laws rest on: walks. Conditions: those that each theorem names. -/
import Derived.Test.YtdbniocnjhfhdaaGreatDoorB17
set_option linter.unusedSimpArgs false
set_option linter.unusedVariables false
set_option maxRecDepth 100000
set_option maxHeartbeats 1000000
namespace Go.Proofs.YtdbniocnjhfhdaaGreatDoor
open Go Go.RowKit Lib
def dqB (pool:List Ko) (n:Int):Option (ByteArray×ByteArray):=(aqt pool n 12).bind fun k=> (aqf pool k.a).bind fun x=> (aqf pool k.b).map fun y=> (x,y)
def lqz (o:Option (ByteArray×ByteArray)):Value:= .tuple #[.string ((o.map (·.1)).getD ⟨#[]⟩), .string ((o.map (·.2)).getD ⟨#[]⟩), .bool o.isSome]
theorem eqa {P:Program} {fn:Func} {tmps:Array Value} {a b c:Tmp} {x y z:Value} (hr:fn.results= #[.tmp a, .tmp b, .tmp c]) (ha:tmps.getD a undef=x) (hb:tmps.getD b undef=y) (hc:tmps.getD c undef=z) (w:World):(results fn tmps).run P w= .ok (.tuple #[x,y,z]) w:=by
 unfold results
 rw [hr]
 rw [Array.getD_eq_getD_getElem?] at ha hb hc
 simp [ha,hb,hc,Result.andThen]
theorem eqb (c:aqc) (A:Option Addr) (cap:Nat) (ifs flds mths:Value) (n:Int) (ok:Nat→Prop) (w:World) (h:aqQ w ok c A cap ifs flds mths) (hn:bqA n) (hf: ∀k∈c.pool,bqA k.a∧bqA k.b):
  Calls Tryz.prog 174 #[bqb c (.slice A c.pool.length cap) ifs flds mths, .int .i64 n] w fun e w'=>e= .returned (lqz (dqB c.pool n))∧Below w.heap.size w w':=by
 have H:=Hq (h.below (Rf9.alloc Nr (.cells #[.int .i64 c.minor, .int .i64 c.major, .slice A c.pool.length cap, .int .i64 c.acc, .int .i64 c.this, .int .i64 c.sup,ifs,flds,mths] 179)))
 have X0:=Hq (aql w [.int .i64 c.minor, .int .i64 c.major, .slice A c.pool.length cap, .int .i64 c.acc, .int .i64 c.this, .int .i64 c.sup,ifs,flds,mths] 179)
 have W0:=Hq ((Below.refl w.heap.size w).alloc Nr (.cells #[.int .i64 c.minor, .int .i64 c.major, .slice A c.pool.length cap, .int .i64 c.acc, .int .i64 c.this, .int .i64 c.sup,ifs,flds,mths] 179))
 have HN:=Hq hn
 have HF:=Hq hf
 have HT:=Hq (show dqB c.pool n=(aqt c.pool n 12).bind fun k=> (aqf c.pool k.a).bind fun x=> (aqf c.pool k.b).map fun y=> (x,y) from rfl)
 rcases hx:aqt c.pool n 12 with _|x
 ·have HX:=Hq hx
  clear h hn hx hf
  rw [aqe]
  go_enter Tryz.func174,Tryz.ntmps174
  go_wp2_with (go_at_call 98;refine(bq7 c A cap ifs flds mths n 12 ok _ H.out.hp H.out.h1 H.out.h2 H.out.h3 HN.out.2 HN.out.1).mono ?_;rw [HX.out];rintro e w1 ⟨rfl,hb⟩;simp only [bqc,koV,Option.getD_none,Option.getD_some,Option.isSome_none,Option.isSome_some,aqY];have HB:=Hq hb;clear hb)
  refine bodyPost_ret (eqa rfl rfl rfl rfl _) rfl ?_
  refine⟨?_,(W0.out.trans (HB.out.mono Sp)).alloc (by have:=HB.out.size;simp at this;omega) _⟩
  rw [HT.out,HX.out]
  rfl
 have HX:=Hq hx
 have HXF:=Hq (HF.out x (cqm hx).1)
 clear h hn hx hf
 rcases hxa:aqf c.pool x.a with _|sa<;>rcases hxb:aqf c.pool x.b with _|sb
 all_goals
  have HXA:=Hq hxa
  have HXB:=Hq hxb
  clear hxa hxb
  rw [aqe]
  go_enter Tryz.func174,Tryz.ntmps174
  go_wp2_with (go_at_call 98;refine(bq7 c A cap ifs flds mths n 12 ok _ H.out.hp H.out.h1 H.out.h2 H.out.h3 HN.out.2 HN.out.1).mono ?_;rw [HX.out];rintro e w1 ⟨rfl,hb⟩;simp only [bqc,koV,Option.getD_none,Option.getD_some,Option.isSome_none,Option.isSome_some,aqY];refine aqa ?_)
  have hz:=hb.size
  simp at hz
  have X1:=Hq ((X0.out.below hb Sp).below ((Below.refl w1.heap.size w1).alloc Nr (.cells #[.int .i64 x.tag, .string x.text, .int .i64 x.num, .int .i64 x.a, .int .i64 x.b] 78)) Om)
  have H1:=Hq ((H.out.below hb).below ((Below.refl w1.heap.size w1).alloc Nr (.cells #[.int .i64 x.tag, .string x.text, .int .i64 x.num, .int .i64 x.a, .int .i64 x.b] 78)))
  have Y1:=Hq (aql w1 [.int .i64 x.tag, .string x.text, .int .i64 x.num, .int .i64 x.a, .int .i64 x.b] 78)
  have W1:=Hq ((W0.out.trans (hb.mono Sp)).alloc Om (.cells #[.int .i64 x.tag, .string x.text, .int .i64 x.num, .int .i64 x.a, .int .i64 x.b] 78))
  clear hb H X0 W0
  refine aqb ?_
  go_wp2_with (first
   | (refine wpList_load_row rfl _ _ rfl w.heap.size rfl _ _ _ _ X1.out Tryz.underlying179 rfl Kq9 ?_)
   | (go_at_call 97;refine aqa ?_))
  refine aqb ?_
  refine(aqR c A cap ifs flds mths x.a ok _ H1.out HXF.out.1).mono ?_
  rw [HXA.out]
  rintro e w2 ⟨rfl,hb2⟩
  simp only [cqh,Option.getD_none,Option.getD_some,Option.isSome_none,Option.isSome_some]
  have hz2:=hb2.size
  simp at hz2
  have X2:=Hq (X1.out.below hb2 X1.out.lt)
  have Y2:=Hq (Y1.out.below hb2 Y1.out.lt)
  have H2:=Hq (H1.out.below hb2)
  have W2:=Hq (W1.out.trans (hb2.mono W1.out.size))
  have y4:=Y2.out.cell 4 rfl
  clear hb2 X1 Y1 H1 W1
  go_wp2_with (first
   | (refine wpList_load_row rfl _ _ rfl w.heap.size rfl _ _ _ _ X2.out Tryz.underlying179 rfl Kq9 ?_)
   | (go_at_call 97;refine(aqR c A cap ifs flds mths x.b ok _ H2.out HXF.out.2).mono ?_;rw [HXB.out];rintro e w3 ⟨rfl,hb3⟩;simp only [cqh,Option.getD_none,Option.getD_some,Option.isSome_none,Option.isSome_some];have W3:=Hq (W2.out.trans (hb3.mono W2.out.size));clear hb3))
  refine bodyPost_ret (eqa rfl rfl rfl rfl _) rfl ?_
  refine⟨?_,W3.out⟩
  rw [HT.out,HX.out]
  simp only [Option.bind_some,HXA.out,HXB.out,Option.bind_none]
  rfl
theorem lqA (s:ByteArray) (w:World) (hm:s.size≤9223372036854775807):
  Calls Tryz.prog 143 #[.string s] w fun e w'=>e= .returned (.bool (aqB s).2.2)∧Below w.heap.size w w':=by
 have HK:=Hq (fun W=>dqi s W hm)
 obtain⟨⟨a,r,b⟩,hv⟩: ∃v,aqB s=v:=⟨_,rfl⟩
 rw [hv] at HK⊢
 clear hv
 go_enter Tryz.func143,Tryz.ntmps143
 go_wp2_with (go_at_call 160;refine(HK.out _).mono ?_;rintro e w1 ⟨rfl,hb1⟩;have HB:=Hq hb1;clear hb1)
 go_ret
 exact⟨rfl,HB.out⟩
def eqN (pool:List Ko) (a b:Int):Int:=match aqf pool a,aqf pool b with
 |some s,some d=>if aq5 s.data.toList=false then 21 else if aqD d.data.toList=false∧(aqB d).2.2=false then 22 else 0
 |_,_=>20
theorem fqU (c:aqc) (A:Option Addr) (cap:Nat) (ifs flds mths:Value) (ok:Nat→Prop) (tx:ByteArray) (nu a b:Int) (w:World) (h:aqQ w ok c A cap ifs flds mths) (hn:bqA a) (hn2:bqA b) (ht: ∀k∈c.pool,k.text.size≤65536):
  Calls Tryz.prog 125 #[bqb c (.slice A c.pool.length cap) ifs flds mths,koV ⟨12,tx,nu,a,b⟩] w fun e w'=>e= .returned (.int .i64 (eqN c.pool a b))∧Below w.heap.size w w':=by
 have HW0:=Hq (((Below.refl w.heap.size w).alloc Nr (.cells #[.int .i64 c.minor, .int .i64 c.major, .slice A c.pool.length cap, .int .i64 c.acc, .int .i64 c.this, .int .i64 c.sup,ifs,flds,mths] 179)).alloc Sp (.cells #[.int .i64 12, .string tx, .int .i64 nu, .int .i64 a, .int .i64 b] 78))
 have X0:=Hq ((aql w [.int .i64 c.minor, .int .i64 c.major, .slice A c.pool.length cap, .int .i64 c.acc, .int .i64 c.this, .int .i64 c.sup,ifs,flds,mths] 179).below ((Below.refl (w.heap.size+1) (w.alloc (.cells #[.int .i64 c.minor, .int .i64 c.major, .slice A c.pool.length cap, .int .i64 c.acc, .int .i64 c.this, .int .i64 c.sup,ifs,flds,mths] 179))).alloc Sp (.cells #[.int .i64 12, .string tx, .int .i64 nu, .int .i64 a, .int .i64 b] 78)) Om)
 have Y0:=Hq (aql (w.alloc (.cells #[.int .i64 c.minor, .int .i64 c.major, .slice A c.pool.length cap, .int .i64 c.acc, .int .i64 c.this, .int .i64 c.sup,ifs,flds,mths] 179)) [.int .i64 12, .string tx, .int .i64 nu, .int .i64 a, .int .i64 b] 78)
 have hz0:((w.alloc (.cells #[.int .i64 c.minor, .int .i64 c.major, .slice A c.pool.length cap, .int .i64 c.acc, .int .i64 c.this, .int .i64 c.sup,ifs,flds,mths] 179)).alloc (.cells #[.int .i64 12, .string tx, .int .i64 nu, .int .i64 a, .int .i64 b] 78)).heap.size=w.heap.size+2:=by simp
 have H0:=Hq (h.below HW0.out)
 simp only [World.size_alloc] at Y0
 have HN:=Hq hn
 have HN2:=Hq hn2
 obtain⟨E,hE⟩: ∃E,eqN c.pool a b=E:=⟨_,rfl⟩
 have HE:=Hq hE
 rw [hE]
 clear hE
 rcases hxa:aqf c.pool a with _|sa<;>rcases hxb:aqf c.pool b with _|sb
 ·have HP:=Hq (show E=20 by rw [←HE.out];unfold eqN;rw [hxa,hxb])
  clear h hn hn2
  have HXA:=Hq hxa
  have HXB:=Hq hxb
  clear hxa hxb
  rw [aqe]
  simp only [koV]
  go_enter Tryz.func125,Tryz.ntmps125
  go_wp2_with (go_at_call 97;refine aqa ?_)
  refine aqb ?_
  refine(aqR c A cap ifs flds mths a ok _ H0.out HN.out).mono ?_
  rw [HXA.out]
  rintro e w1 ⟨rfl,hb⟩
  simp only [cqh,Option.getD_none,Option.getD_some,Option.isSome_none,Option.isSome_some]
  have hz1:=hb.size
  rw [hz0] at hz1
  have X1:=Hq (X0.out.below hb Om)
  have Y1:=Hq (Y0.out.below hb Om)
  have H1:=Hq (H0.out.below hb)
  have W1:=Hq (HW0.out.trans (hb.mono Om))
  have y4:=Y1.out.cell 4 rfl
  clear hb X0 Y0 H0 HW0 hz0
  go_wp2_with (first
   | (refine wpList_load_row rfl _ _ rfl w.heap.size rfl _ _ _ _ X1.out Tryz.underlying179 rfl Kq9 ?_)
   | (go_at_call 97;refine(aqR c A cap ifs flds mths b ok _ H1.out HN2.out).mono ?_;rw [HXB.out];rintro e w2 ⟨rfl,hb2⟩;simp only [cqh,Option.getD_none,Option.getD_some,Option.isSome_none,Option.isSome_some];have W2:=Hq (W1.out.trans (hb2.mono W1.out.size));clear hb2))
  go_ret
  exact⟨by rw [HP.out];rfl,W2.out⟩
 ·have HP:=Hq (show E=20 by rw [←HE.out];unfold eqN;rw [hxa,hxb])
  clear h hn hn2
  have HXA:=Hq hxa
  have HXB:=Hq hxb
  clear hxa hxb
  rw [aqe]
  simp only [koV]
  go_enter Tryz.func125,Tryz.ntmps125
  go_wp2_with (go_at_call 97;refine aqa ?_)
  refine aqb ?_
  refine(aqR c A cap ifs flds mths a ok _ H0.out HN.out).mono ?_
  rw [HXA.out]
  rintro e w1 ⟨rfl,hb⟩
  simp only [cqh,Option.getD_none,Option.getD_some,Option.isSome_none,Option.isSome_some]
  have hz1:=hb.size
  rw [hz0] at hz1
  have X1:=Hq (X0.out.below hb Om)
  have Y1:=Hq (Y0.out.below hb Om)
  have H1:=Hq (H0.out.below hb)
  have W1:=Hq (HW0.out.trans (hb.mono Om))
  have y4:=Y1.out.cell 4 rfl
  clear hb X0 Y0 H0 HW0 hz0
  go_wp2_with (first
   | (refine wpList_load_row rfl _ _ rfl w.heap.size rfl _ _ _ _ X1.out Tryz.underlying179 rfl Kq9 ?_)
   | (go_at_call 97;refine(aqR c A cap ifs flds mths b ok _ H1.out HN2.out).mono ?_;rw [HXB.out];rintro e w2 ⟨rfl,hb2⟩;simp only [cqh,Option.getD_none,Option.getD_some,Option.isSome_none,Option.isSome_some];have W2:=Hq (W1.out.trans (hb2.mono W1.out.size));clear hb2))
  go_ret
  exact⟨by rw [HP.out];rfl,W2.out⟩
 ·have HP:=Hq (show E=20 by rw [←HE.out];unfold eqN;rw [hxa,hxb])
  clear h hn hn2
  have HXA:=Hq hxa
  have HXB:=Hq hxb
  clear hxa hxb
  rw [aqe]
  simp only [koV]
  go_enter Tryz.func125,Tryz.ntmps125
  go_wp2_with (go_at_call 97;refine aqa ?_)
  refine aqb ?_
  refine(aqR c A cap ifs flds mths a ok _ H0.out HN.out).mono ?_
  rw [HXA.out]
  rintro e w1 ⟨rfl,hb⟩
  simp only [cqh,Option.getD_none,Option.getD_some,Option.isSome_none,Option.isSome_some]
  have hz1:=hb.size
  rw [hz0] at hz1
  have X1:=Hq (X0.out.below hb Om)
  have Y1:=Hq (Y0.out.below hb Om)
  have H1:=Hq (H0.out.below hb)
  have W1:=Hq (HW0.out.trans (hb.mono Om))
  have y4:=Y1.out.cell 4 rfl
  clear hb X0 Y0 H0 HW0 hz0
  go_wp2_with (first
   | (refine wpList_load_row rfl _ _ rfl w.heap.size rfl _ _ _ _ X1.out Tryz.underlying179 rfl Kq9 ?_)
   | (go_at_call 97;refine(aqR c A cap ifs flds mths b ok _ H1.out HN2.out).mono ?_;rw [HXB.out];rintro e w2 ⟨rfl,hb2⟩;simp only [cqh,Option.getD_none,Option.getD_some,Option.isSome_none,Option.isSome_some];have W2:=Hq (W1.out.trans (hb2.mono W1.out.size));clear hb2))
  go_ret
  exact⟨by rw [HP.out];rfl,W2.out⟩
 have hsa:=cqe hxa ht
 have hsb:=cqe hxb ht
 obtain⟨m1,h1⟩: ∃m,aq5 sa.data.toList=m:=⟨_,rfl⟩
 obtain⟨m2,h2⟩: ∃m,aqD sb.data.toList=m:=⟨_,rfl⟩
 obtain⟨m3,h3⟩: ∃m,(aqB sb).2.2=m:=⟨_,rfl⟩
 have HP:=Hq (show E=if m1=false then 21 else if m2=false∧m3=false then 22 else 0 by rw [←HE.out];unfold eqN;rw [hxa,hxb];simp only [h1,h2,h3])
 have C1:=Hq (fun W=>fqT sa W Om)
 have C2:=Hq (fun W=>dqg sb W Om)
 have C3:=Hq (fun W=>lqA sb W Om)
 rw [h1] at C1
 rw [h2] at C2
 rw [h3] at C3
 clear h hn hn2 h1 h2 h3
 cases m1<;>cases m2<;>cases m3
 all_goals
  have HXA:=Hq hxa
  have HXB:=Hq hxb
  clear hxa hxb
  rw [aqe]
  simp only [koV]
  go_enter Tryz.func125,Tryz.ntmps125
  go_wp2_with (go_at_call 97;refine aqa ?_)
  refine aqb ?_
  refine(aqR c A cap ifs flds mths a ok _ H0.out HN.out).mono ?_
  rw [HXA.out]
  rintro e w1 ⟨rfl,hb⟩
  simp only [cqh,Option.getD_none,Option.getD_some,Option.isSome_none,Option.isSome_some]
  have hz1:=hb.size
  rw [hz0] at hz1
  have X1:=Hq (X0.out.below hb Om)
  have Y1:=Hq (Y0.out.below hb Om)
  have H1:=Hq (H0.out.below hb)
  have W1:=Hq (HW0.out.trans (hb.mono Om))
  have y4:=Y1.out.cell 4 rfl
  clear hb X0 Y0 H0 HW0 hz0
  go_wp2_with (first
   | (refine wpList_load_row rfl _ _ rfl w.heap.size rfl _ _ _ _ X1.out Tryz.underlying179 rfl Kq9 ?_)
   | (go_at_call 97;refine(aqR c A cap ifs flds mths b ok _ H1.out HN2.out).mono ?_;rw [HXB.out];rintro e w2 ⟨rfl,hb2⟩;simp only [cqh,Option.getD_none,Option.getD_some,Option.isSome_none,Option.isSome_some];have W2:=Hq (W1.out.trans (hb2.mono W1.out.size));clear hb2)
   | (go_at_call 141;refine(C1.out _).mono ?_;rintro e w3 ⟨rfl,hb3⟩;have W3:=Hq (W2.out.trans (hb3.mono W2.out.size));clear hb3)
   | (go_at_call 142;refine(C2.out _).mono ?_;rintro e w4 ⟨rfl,hb4⟩;have W4:=Hq (W3.out.trans (hb4.mono W3.out.size));clear hb4)
   | (go_at_call 143;refine(C3.out _).mono ?_;rintro e w5 ⟨rfl,hb5⟩;have W5:=Hq (W4.out.trans (hb5.mono W4.out.size));clear hb5))
  go_ret
  exact⟨by rw [HP.out];rfl,by first|exact W5.out|exact W4.out|exact W3.out⟩
set_option maxHeartbeats 4000000
def cqR (pool:List Ko) (tag a b:Int):Int:=match aqt pool a 7,dqB pool b with
 |some _,some (nm,d)=>if tag=9 then(if aqD d.data.toList=false then 22 else if bqh nm.data.toList=false then 21 else 0)
  else if(aqB d).2.2=false then 22 else if nm.data.toList=bqG∨(nm.data.toList=dqN∧(tag=11∨(aqB d).2.1.data.toList≠ [86])) then 21 else 0
 |_,_=>20
theorem gqt {pool:List Ko} {n:Int} {x y:ByteArray} (h:dqB pool n=some (x,y)) (ht: ∀k∈pool,k.text.size≤65536):x.size≤65536∧y.size≤65536:=by
 unfold dqB at h
 rcases hk:aqt pool n 12 with _|k
 ·rw [hk] at h;cases h
 rw [hk] at h
 simp only [Option.bind_some] at h
 rcases hx:aqf pool k.a with _|sx
 ·rw [hx] at h;cases h
 rw [hx] at h
 simp only [Option.bind_some] at h
 rcases hy:aqf pool k.b with _|sy
 ·rw [hy] at h;cases h
 rw [hy] at h
 simp only [Option.map_some,Option.some.injEq,Prod.mk.injEq] at h
 obtain⟨rfl,rfl⟩:=h
 exact⟨cqe hx ht,cqe hy ht⟩
theorem iqP (c:aqc) (A:Option Addr) (cap:Nat) (ifs flds mths:Value) (ok:Nat→Prop) (tag:Int) (tx:ByteArray) (nu a b:Int) (w:World) (h:aqQ w ok c A cap ifs flds mths) (hn:bqA a) (hn2:bqA b) (hf: ∀k∈c.pool,bqA k.a∧bqA k.b) (ht: ∀k∈c.pool,k.text.size≤65536) (htag:tag=9∨tag=10∨tag=11):
  Calls Tryz.prog 144 #[bqb c (.slice A c.pool.length cap) ifs flds mths,koV ⟨tag,tx,nu,a,b⟩] w fun e w'=>e= .returned (.int .i64 (cqR c.pool tag a b))∧Below w.heap.size w w':=by
 have HW0:=Hq (((Below.refl w.heap.size w).alloc Nr (.cells #[.int .i64 c.minor, .int .i64 c.major, .slice A c.pool.length cap, .int .i64 c.acc, .int .i64 c.this, .int .i64 c.sup,ifs,flds,mths] 179)).alloc Sp (.cells #[.int .i64 tag, .string tx, .int .i64 nu, .int .i64 a, .int .i64 b] 78))
 have X0:=Hq ((aql w [.int .i64 c.minor, .int .i64 c.major, .slice A c.pool.length cap, .int .i64 c.acc, .int .i64 c.this, .int .i64 c.sup,ifs,flds,mths] 179).below ((Below.refl (w.heap.size+1) (w.alloc (.cells #[.int .i64 c.minor, .int .i64 c.major, .slice A c.pool.length cap, .int .i64 c.acc, .int .i64 c.this, .int .i64 c.sup,ifs,flds,mths] 179))).alloc Sp (.cells #[.int .i64 tag, .string tx, .int .i64 nu, .int .i64 a, .int .i64 b] 78)) Om)
 have Y0:=Hq (aql (w.alloc (.cells #[.int .i64 c.minor, .int .i64 c.major, .slice A c.pool.length cap, .int .i64 c.acc, .int .i64 c.this, .int .i64 c.sup,ifs,flds,mths] 179)) [.int .i64 tag, .string tx, .int .i64 nu, .int .i64 a, .int .i64 b] 78)
 have hz0:((w.alloc (.cells #[.int .i64 c.minor, .int .i64 c.major, .slice A c.pool.length cap, .int .i64 c.acc, .int .i64 c.this, .int .i64 c.sup,ifs,flds,mths] 179)).alloc (.cells #[.int .i64 tag, .string tx, .int .i64 nu, .int .i64 a, .int .i64 b] 78)).heap.size=w.heap.size+2:=by simp
 have H0:=Hq (h.below HW0.out)
 simp only [World.size_alloc] at Y0
 have HN:=Hq hn
 have HN2:=Hq hn2
 have HF:=Hq hf
 obtain⟨E,hE⟩: ∃E,cqR c.pool tag a b=E:=⟨_,rfl⟩
 rw [hE]
 rcases hka:aqt c.pool a 7 with _|ka
 ·rcases hnb:dqB c.pool b with _|nb
  ·have HP:=Hq (show E=20 by rw [←hE];unfold cqR;rw [hka,hnb])
   have HKA:=Hq hka
   have HNB:=Hq hnb
   have HK:=Hq (fun W=>dqi ⟨#[]⟩ W Dd9)
   clear h hn hn2 hf hka hnb hE
   rw [aqe]
   simp only [koV]
   go_enter Tryz.func144,Tryz.ntmps144
   go_wp2_with (go_at_call 98;refine(bq7 c A cap ifs flds mths a 7 ok _ H0.out.hp H0.out.h1 H0.out.h2 H0.out.h3 HN.out.2 HN.out.1).mono ?_;rw [HKA.out];rintro e w1 ⟨rfl,hb⟩;simp only [bqc,koV,Option.getD_none,Option.getD_some,Option.isSome_none,Option.isSome_some,aqY];refine aqa ?_)
   have hz1:=hb.size
   rw [hz0] at hz1
   have hba:=hb.trans ((Below.refl w1.heap.size w1).alloc Nr (.cells #[.int .i64 0, .string ⟨#[]⟩, .int .i64 0, .int .i64 0, .int .i64 0] 78) |>.mono hb.size)
   have X1:=Hq (X0.out.below hba Om)
   have Y1:=Hq (Y0.out.below hba Om)
   have H1:=Hq (H0.out.below hba)
   have W1:=Hq (HW0.out.trans (hba.mono Om))
   have hz1':(w1.alloc (.cells #[.int .i64 0, .string ⟨#[]⟩, .int .i64 0, .int .i64 0, .int .i64 0] 78)).heap.size=w1.heap.size+1:=by simp
   have y4:=Y1.out.cell 4 rfl
   clear hb hba X0 Y0 H0 HW0 hz0
   refine aqb ?_
   go_wp2_with (first
    | (refine wpList_load_row rfl _ _ rfl w.heap.size rfl _ _ _ _ X1.out Tryz.underlying179 rfl Kq9 ?_)
    | (go_at_call 174;refine aqa ?_))
   refine aqb ?_
   refine(eqb c A cap ifs flds mths b ok _ H1.out HN2.out HF.out).mono ?_
   rw [HNB.out]
   rintro e w2 ⟨rfl,hb2⟩
   simp only [lqz,Option.map_none,Option.map_some,Option.getD_none,Option.getD_some,Option.isSome_none,Option.isSome_some]
   have hz2:=hb2.size
   rw [hz1'] at hz2
   have Y2:=Hq (Y1.out.below hb2 Y1.out.lt)
   have W2:=Hq (W1.out.trans (hb2.mono W1.out.size))
   have y0:=Y2.out.cell 0 rfl
   clear hb2 X1 Y1 H1 W1
   rcases htag with rfl|rfl|rfl
   all_goals
    go_wp2_with (go_at_call 160;refine(HK.out _).mono ?_;rintro e w3 ⟨rfl,hb3⟩;have W3:=Hq (W2.out.trans (hb3.mono W2.out.size));have Y3:=Hq (Y2.out.below hb3 Y2.out.lt);have y03:=Y3.out.cell 0 rfl;clear hb3)
    go_ret
    exact⟨by rw [HP.out];rfl,W3.out⟩
  obtain⟨nm,d⟩:=nb
  obtain⟨l1,l2⟩:=gqt hnb ht
  have HP:=Hq (show E=20 by rw [←hE];unfold cqR;rw [hka,hnb])
  have HKA:=Hq hka
  have HNB:=Hq hnb
  have HK:=Hq (fun W=>dqi d W Om)
  clear h hn hn2 hf hka hnb hE
  rw [aqe]
  simp only [koV]
  go_enter Tryz.func144,Tryz.ntmps144
  go_wp2_with (go_at_call 98;refine(bq7 c A cap ifs flds mths a 7 ok _ H0.out.hp H0.out.h1 H0.out.h2 H0.out.h3 HN.out.2 HN.out.1).mono ?_;rw [HKA.out];rintro e w1 ⟨rfl,hb⟩;simp only [bqc,koV,Option.getD_none,Option.getD_some,Option.isSome_none,Option.isSome_some,aqY];refine aqa ?_)
  have hz1:=hb.size
  rw [hz0] at hz1
  have hba:=hb.trans ((Below.refl w1.heap.size w1).alloc Nr (.cells #[.int .i64 0, .string ⟨#[]⟩, .int .i64 0, .int .i64 0, .int .i64 0] 78) |>.mono hb.size)
  have X1:=Hq (X0.out.below hba Om)
  have Y1:=Hq (Y0.out.below hba Om)
  have H1:=Hq (H0.out.below hba)
  have W1:=Hq (HW0.out.trans (hba.mono Om))
  have hz1':(w1.alloc (.cells #[.int .i64 0, .string ⟨#[]⟩, .int .i64 0, .int .i64 0, .int .i64 0] 78)).heap.size=w1.heap.size+1:=by simp
  have y4:=Y1.out.cell 4 rfl
  clear hb hba X0 Y0 H0 HW0 hz0
  refine aqb ?_
  go_wp2_with (first
   | (refine wpList_load_row rfl _ _ rfl w.heap.size rfl _ _ _ _ X1.out Tryz.underlying179 rfl Kq9 ?_)
   | (go_at_call 174;refine aqa ?_))
  refine aqb ?_
  refine(eqb c A cap ifs flds mths b ok _ H1.out HN2.out HF.out).mono ?_
  rw [HNB.out]
  rintro e w2 ⟨rfl,hb2⟩
  simp only [lqz,Option.map_none,Option.map_some,Option.getD_none,Option.getD_some,Option.isSome_none,Option.isSome_some]
  have hz2:=hb2.size
  rw [hz1'] at hz2
  have Y2:=Hq (Y1.out.below hb2 Y1.out.lt)
  have W2:=Hq (W1.out.trans (hb2.mono W1.out.size))
  have y0:=Y2.out.cell 0 rfl
  clear hb2 X1 Y1 H1 W1
  rcases htag with rfl|rfl|rfl
  all_goals
   go_wp2_with (go_at_call 160;refine(HK.out _).mono ?_;rintro e w3 ⟨rfl,hb3⟩;have W3:=Hq (W2.out.trans (hb3.mono W2.out.size));have Y3:=Hq (Y2.out.below hb3 Y2.out.lt);have y03:=Y3.out.cell 0 rfl;clear hb3)
   go_ret
   exact⟨by rw [HP.out];rfl,W3.out⟩
 rcases hnb:dqB c.pool b with _|nb
 ·have HP:=Hq (show E=20 by rw [←hE];unfold cqR;rw [hka,hnb])
  have HKA:=Hq hka
  have HNB:=Hq hnb
  have HK:=Hq (fun W=>dqi ⟨#[]⟩ W Dd9)
  clear h hn hn2 hf hka hnb hE
  rw [aqe]
  simp only [koV]
  go_enter Tryz.func144,Tryz.ntmps144
  go_wp2_with (go_at_call 98;refine(bq7 c A cap ifs flds mths a 7 ok _ H0.out.hp H0.out.h1 H0.out.h2 H0.out.h3 HN.out.2 HN.out.1).mono ?_;rw [HKA.out];rintro e w1 ⟨rfl,hb⟩;simp only [bqc,koV,Option.getD_none,Option.getD_some,Option.isSome_none,Option.isSome_some,aqY];refine aqa ?_)
  have hz1:=hb.size
  rw [hz0] at hz1
  have hba:=hb.trans ((Below.refl w1.heap.size w1).alloc Nr (.cells #[.int .i64 ka.tag, .string ka.text, .int .i64 ka.num, .int .i64 ka.a, .int .i64 ka.b] 78) |>.mono hb.size)
  have X1:=Hq (X0.out.below hba Om)
  have Y1:=Hq (Y0.out.below hba Om)
  have H1:=Hq (H0.out.below hba)
  have W1:=Hq (HW0.out.trans (hba.mono Om))
  have hz1':(w1.alloc (.cells #[.int .i64 ka.tag, .string ka.text, .int .i64 ka.num, .int .i64 ka.a, .int .i64 ka.b] 78)).heap.size=w1.heap.size+1:=by simp
  have y4:=Y1.out.cell 4 rfl
  clear hb hba X0 Y0 H0 HW0 hz0
  refine aqb ?_
  go_wp2_with (first
   | (refine wpList_load_row rfl _ _ rfl w.heap.size rfl _ _ _ _ X1.out Tryz.underlying179 rfl Kq9 ?_)
   | (go_at_call 174;refine aqa ?_))
  refine aqb ?_
  refine(eqb c A cap ifs flds mths b ok _ H1.out HN2.out HF.out).mono ?_
  rw [HNB.out]
  rintro e w2 ⟨rfl,hb2⟩
  simp only [lqz,Option.map_none,Option.map_some,Option.getD_none,Option.getD_some,Option.isSome_none,Option.isSome_some]
  have hz2:=hb2.size
  rw [hz1'] at hz2
  have Y2:=Hq (Y1.out.below hb2 Y1.out.lt)
  have W2:=Hq (W1.out.trans (hb2.mono W1.out.size))
  have y0:=Y2.out.cell 0 rfl
  clear hb2 X1 Y1 H1 W1
  rcases htag with rfl|rfl|rfl
  all_goals
   go_wp2_with (go_at_call 160;refine(HK.out _).mono ?_;rintro e w3 ⟨rfl,hb3⟩;have W3:=Hq (W2.out.trans (hb3.mono W2.out.size));have Y3:=Hq (Y2.out.below hb3 Y2.out.lt);have y03:=Y3.out.cell 0 rfl;clear hb3)
   go_ret
   exact⟨by rw [HP.out];rfl,W3.out⟩
 obtain⟨nm,d⟩:=nb
 obtain⟨l1,l2⟩:=gqt hnb ht
 obtain⟨m1,h1⟩: ∃m,bqh nm.data.toList=m:=⟨_,rfl⟩
 obtain⟨m2,h2⟩: ∃m,aqD d.data.toList=m:=⟨_,rfl⟩
 obtain⟨⟨ka1,ret,is⟩,h3⟩: ∃v,aqB d=v:=⟨_,rfl⟩
 have C1:=Hq (fun W=>eq2 nm W Om)
 have C2:=Hq (fun W=>dqg d W Om)
 rw [h1] at C1
 rw [h2] at C2
 obtain⟨b1,hb1⟩: ∃m,m=(nm.data.toList==bqG):=⟨_,rfl⟩
 obtain⟨b2,hb2'⟩: ∃m,m=(nm.data.toList==dqN):=⟨_,rfl⟩
 obtain⟨b3,hb3'⟩: ∃m,m=(ret.data.toList== [86]):=⟨_,rfl⟩
 have e1:(nm.toList== [60,99,108,105,110,105,116,62])=b1:=by rw [ByteArray.toList_eq,hb1];rfl
 have e2:(nm.toList== [60,105,110,105,116,62])=b2:=by rw [ByteArray.toList_eq,hb2'];rfl
 have e3:(ret.toList== [86])=b3:=by rw [ByteArray.toList_eq,hb3']
 have HP:=Hq (show E=if tag=9 then(if m2=false then 22 else if m1=false then 21 else 0) else if is=false then 22 else if b1=true∨(b2=true∧(tag=11∨b3=false)) then 21 else 0 by
  rw [←hE]
  unfold cqR
  rw [hka,hnb]
  simp only [h1,h2,h3]
  have k1:(nm.data.toList=bqG)↔b1=true:=by rw [hb1];simp
  have k2:(nm.data.toList=dqN)↔b2=true:=by rw [hb2'];simp
  have k3:(ret.data.toList≠ [86])↔b3=false:=by rw [hb3'];simp
  simp only [k1,k2,k3])
 clear hb1 hb2' hb3' h1 h2
 have HKA:=Hq hka
 have HNB:=Hq hnb
 have HK:=Hq (fun W=>dqi d W Om)
 rw [h3] at HK
 clear h hn hn2 hf hka hnb hE h3
 rw [aqe]
 simp only [koV]
 go_enter Tryz.func144,Tryz.ntmps144
 go_wp2_with (go_at_call 98;refine(bq7 c A cap ifs flds mths a 7 ok _ H0.out.hp H0.out.h1 H0.out.h2 H0.out.h3 HN.out.2 HN.out.1).mono ?_;rw [HKA.out];rintro e w1 ⟨rfl,hb⟩;simp only [bqc,koV,Option.getD_none,Option.getD_some,Option.isSome_none,Option.isSome_some,aqY];refine aqa ?_)
 have hz1:=hb.size
 rw [hz0] at hz1
 have hba:=hb.trans ((Below.refl w1.heap.size w1).alloc Nr (.cells #[.int .i64 ka.tag, .string ka.text, .int .i64 ka.num, .int .i64 ka.a, .int .i64 ka.b] 78) |>.mono hb.size)
 have X1:=Hq (X0.out.below hba Om)
 have Y1:=Hq (Y0.out.below hba Om)
 have H1:=Hq (H0.out.below hba)
 have W1:=Hq (HW0.out.trans (hba.mono Om))
 have hz1':(w1.alloc (.cells #[.int .i64 ka.tag, .string ka.text, .int .i64 ka.num, .int .i64 ka.a, .int .i64 ka.b] 78)).heap.size=w1.heap.size+1:=by simp
 have y4:=Y1.out.cell 4 rfl
 clear hb hba X0 Y0 H0 HW0 hz0
 refine aqb ?_
 go_wp2_with (first
  | (refine wpList_load_row rfl _ _ rfl w.heap.size rfl _ _ _ _ X1.out Tryz.underlying179 rfl Kq9 ?_)
  | (go_at_call 174;refine aqa ?_))
 refine aqb ?_
 refine(eqb c A cap ifs flds mths b ok _ H1.out HN2.out HF.out).mono ?_
 rw [HNB.out]
 rintro e w2 ⟨rfl,hb2⟩
 simp only [lqz,Option.map_none,Option.map_some,Option.getD_none,Option.getD_some,Option.isSome_none,Option.isSome_some]
 have hz2:=hb2.size
 rw [hz1'] at hz2
 have Y2:=Hq (Y1.out.below hb2 Y1.out.lt)
 have W2:=Hq (W1.out.trans (hb2.mono W1.out.size))
 have y0:=Y2.out.cell 0 rfl
 clear hb2 X1 Y1 H1 W1
 rcases htag with rfl|rfl|rfl
 ·rw [if_pos rfl] at HP
  cases m2<;>cases m1
  all_goals
   go_wp2_with (first
    | (go_at_call 160;refine(HK.out _).mono ?_;rintro e w3 ⟨rfl,hb3⟩;have W3:=Hq (W2.out.trans (hb3.mono W2.out.size));have Y3:=Hq (Y2.out.below hb3 Y2.out.lt);have y03:=Y3.out.cell 0 rfl;clear hb3)
    | (go_at_call 142;refine(C2.out _).mono ?_;rintro e w4 ⟨rfl,hb4⟩;have W4:=Hq (W3.out.trans (hb4.mono W3.out.size));clear hb4)
    | (go_at_call 154;refine(C1.out _).mono ?_;rintro e w5 ⟨rfl,hb5⟩;have W5:=Hq (W4.out.trans (hb5.mono W4.out.size));clear hb5))
   go_ret
   exact⟨by rw [HP.out];rfl,by first|exact W5.out|exact W4.out⟩
 ·cases is
  ·go_wp2_with (go_at_call 160;refine(HK.out _).mono ?_;rintro e w3 ⟨rfl,hb3⟩;have W3:=Hq (W2.out.trans (hb3.mono W2.out.size));have Y3:=Hq (Y2.out.below hb3 Y2.out.lt);have y03:=Y3.out.cell 0 rfl;clear hb3)
   go_ret
   exact⟨by rw [HP.out];rfl,W3.out⟩
  cases b1<;>cases b2<;>cases b3
  all_goals
   go_wp2_with (go_at_call 160;refine(HK.out _).mono ?_;rintro e w3 ⟨rfl,hb3⟩;have W3:=Hq (W2.out.trans (hb3.mono W2.out.size));have Y3:=Hq (Y2.out.below hb3 Y2.out.lt);have y03:=Y3.out.cell 0 rfl;clear hb3)
   go_ret
   exact⟨by rw [HP.out];rfl,W3.out⟩
 cases is
 ·go_wp2_with (go_at_call 160;refine(HK.out _).mono ?_;rintro e w3 ⟨rfl,hb3⟩;have W3:=Hq (W2.out.trans (hb3.mono W2.out.size));have Y3:=Hq (Y2.out.below hb3 Y2.out.lt);have y03:=Y3.out.cell 0 rfl;clear hb3)
  go_ret
  exact⟨by rw [HP.out];rfl,W3.out⟩
 cases b1<;>cases b2<;>cases b3
 all_goals
  go_wp2_with (go_at_call 160;refine(HK.out _).mono ?_;rintro e w3 ⟨rfl,hb3⟩;have W3:=Hq (W2.out.trans (hb3.mono W2.out.size));have Y3:=Hq (Y2.out.below hb3 Y2.out.lt);have y03:=Y3.out.cell 0 rfl;clear hb3)
  go_ret
  exact⟨by rw [HP.out];rfl,W3.out⟩
theorem dq2 (c:aqc) (A:Option Addr) (cap:Nat) (ifs flds mths:Value) (ok:Nat→Prop) (tag:Int) (tx:ByteArray) (nu a b:Int) (w:World) (h:aqQ w ok c A cap ifs flds mths) (hn:bqA a) (hn2:bqA b) (hf: ∀k∈c.pool,bqA k.a∧bqA k.b) (ht: ∀k∈c.pool,k.text.size≤65536) (htag:tag=9∨tag=10∨tag=11):
  Calls Tryz.prog 125 #[bqb c (.slice A c.pool.length cap) ifs flds mths,koV ⟨tag,tx,nu,a,b⟩] w fun e w'=>e= .returned (.int .i64 (cqR c.pool tag a b))∧Below w.heap.size w w':=by
 have HW0:=Hq (((Below.refl w.heap.size w).alloc Nr (.cells #[.int .i64 c.minor, .int .i64 c.major, .slice A c.pool.length cap, .int .i64 c.acc, .int .i64 c.this, .int .i64 c.sup,ifs,flds,mths] 179)).alloc Sp (.cells #[.int .i64 tag, .string tx, .int .i64 nu, .int .i64 a, .int .i64 b] 78))
 have HM:=Hq (fun W (hW:aqQ W ok c A cap ifs flds mths)=>iqP c A cap ifs flds mths ok tag tx nu a b W hW hn hn2 hf ht htag)
 have H0:=Hq (h.below HW0.out)
 have X0:=Hq ((aql w [.int .i64 c.minor, .int .i64 c.major, .slice A c.pool.length cap, .int .i64 c.acc, .int .i64 c.this, .int .i64 c.sup,ifs,flds,mths] 179).below ((Below.refl (w.heap.size+1) (w.alloc (.cells #[.int .i64 c.minor, .int .i64 c.major, .slice A c.pool.length cap, .int .i64 c.acc, .int .i64 c.this, .int .i64 c.sup,ifs,flds,mths] 179))).alloc Sp (.cells #[.int .i64 tag, .string tx, .int .i64 nu, .int .i64 a, .int .i64 b] 78)) Om)
 clear h hn hn2 hf ht
 rw [aqe] at HM⊢
 simp only [koV] at HM⊢
 rcases htag with rfl|rfl|rfl
 all_goals
  go_enter Tryz.func125,Tryz.ntmps125
  go_wp2_with (first
   | (refine wpList_load_row rfl _ _ rfl w.heap.size rfl _ _ _ _ X0.out Tryz.underlying179 rfl Kq9 ?_)
   | (go_at_call 144;refine(HM.out _ H0.out).mono ?_;rintro e w1 ⟨rfl,hb⟩;have HB:=Hq (HW0.out.trans (hb.mono Sd));clear hb))
  go_ret
  exact⟨rfl,HB.out⟩
set_option maxHeartbeats 2000000
def lqB (acc f:Int):Nat:=if aqJ acc f=true then 1 else 0
def dqI (acc:Int):Nat:=lqB acc 1+lqB acc 2+lqB acc 4
def hqG:Nat→Int
 |0=>1
 |1=>2
 |_=>4
def hqH (acc:Int):Nat→Nat
 |0=>0
 |k+1=>hqH acc k+lqB acc (hqG k)
theorem kqh (acc:Int):hqH acc 3=dqI acc:=by simp [hqH,dqI,hqG]
theorem lqC (acc:Int): ∀k,hqH acc k≤k
 |0=>Nat.le_refl _
 |k+1=>by
  have:=lqC acc k
  unfold hqH lqB
  split<;>omega
theorem hqI (acc:Int) (w:World):Calls Tryz.prog 157 #[.int .i64 acc] w fun e w'=>e= .returned (.int .i64 (dqI acc))∧Below w.heap.size w w':=by
 have X0:=Hq (aql w [.int .i64 1, .int .i64 2, .int .i64 4] 3)
 have HW:=Hq ((Below.refl w.heap.size w).alloc Nr (.cells #[.int .i64 1, .int .i64 2, .int .i64 4] 3))
 go_enter Tryz.func157,Tryz.ntmps157
 go_wp2_with fail
 go_loop [3,8] (fun n i=> ∃k:Nat,k≤3∧i= .int .i64 k∧n= .int .i64 (hqH acc k)) (fun _ i=>3 - (RowKit.intOf i).toNat)
 case atStart=>exact⟨0,by omega,rfl,rfl⟩
 case round=>
  obtain⟨k,hk,rfl,rfl⟩:=hrel
  have hu:=lqC acc k
  by_cases h3:k=3
  ·subst h3
   go_wp2_with fail
   go_ret
   exact⟨by rw [kqh];rfl,HW.out⟩
  have hlt:((k:Int) <3)=True:=by simp;omega
  have cc:(w.alloc (.cells #[.int .i64 1, .int .i64 2, .int .i64 4] 3)).cell? ⟨w.heap.size,k,none⟩=some (.int .i64 (hqG k)):=by
   have:k=0∨k=1∨k=2:=by omega
   rcases this with rfl|rfl|rfl
   ·exact X0.out.cell 0 rfl
   ·exact X0.out.cell 1 rfl
   exact X0.out.cell 2 rfl
  have HU:=Hq (show hqH acc (k+1)=hqH acc k+lqB acc (hqG k) from rfl)
  obtain⟨F,hF⟩: ∃F,hqG k=F:=⟨_,rfl⟩
  rw [hF] at cc HU
  clear hF
  by_cases hb:aqJ acc F=true
  ·have hb':(bits .and .i64 acc F !=0)=true:=hb
   have HN:=Hq (show lqB acc F=1 by unfold lqB;rw [if_pos hb])
   go_wp2_with fail
   go_round
   case rel=>exact⟨k+1,by omega,by go_num,by rw [HU.out,HN.out];go_num⟩
   case measure=>simp [RowKit.intOf];omega
  have hb':(bits .and .i64 acc F !=0)=false:=by simpa [aqJ] using hb
  have HN:=Hq (show lqB acc F=0 by unfold lqB;rw [if_neg hb])
  go_wp2_with fail
  go_round
  case rel=>exact⟨k+1,by omega,by go_num,by rw [HU.out,HN.out];rfl⟩
  case measure=>simp [RowKit.intOf];omega
abbrev cqB (W:World) (p:Nat) (v:Value):Prop:=W.cell? ⟨p,0,none⟩=some v
theorem cqB.alloc {W:World} {p:Nat} {v:Value} (h:cqB W p v) (hp:p<W.heap.size) (o:Obj):cqB (W.alloc o) p v:=(World.cell?_alloc_lt W o ⟨p,0,none⟩ hp).trans h
theorem iqQ (x:aqq) (p1 p2:Nat) (b1 b2:Bool) (w:World) (h1:cqB w p1 (.bool b1)) (h2:cqB w p2 (.bool b2)) (l1:p1<w.heap.size) (l2:p2<w.heap.size):
  Calls Tryz.prog 152 #[bq0 x, .pointer (some ⟨p1,0,none⟩), .pointer (some ⟨p2,0,none⟩)] w fun e w'=>e= .returned (.bool (!b1|| !b2))∧Below w.heap.size w w':=by
 have k1:=h1.alloc l1 (.cells #[.int .i64 x.acc, .int .i64 x.name, .int .i64 x.desc, .int .i64 x.value] 119)
 have k2:=h2.alloc l2 (.cells #[.int .i64 x.acc, .int .i64 x.name, .int .i64 x.desc, .int .i64 x.value] 119)
 have HW:=Hq ((Below.refl w.heap.size w).alloc Nr (.cells #[.int .i64 x.acc, .int .i64 x.name, .int .i64 x.desc, .int .i64 x.value] 119))
 unfold bq0
 cases b1<;>cases b2
 all_goals
  go_enter Tryz.func152,Tryz.ntmps152
  go_wp2_with fail
  go_ret
  exact⟨rfl,HW.out⟩
theorem iqR (x:aqq) (p1:Nat) (s:ByteArray) (w:World) (h1:cqB w p1 (.string s)) (l1:p1<w.heap.size) (hs:s.size≤65536):
  Calls Tryz.prog 153 #[bq0 x, .pointer (some ⟨p1,0,none⟩)] w fun e w'=>e= .returned (.bool (!bqh s.data.toList))∧Below w.heap.size w w':=by
 have k1:=h1.alloc l1 (.cells #[.int .i64 x.acc, .int .i64 x.name, .int .i64 x.desc, .int .i64 x.value] 119)
 have HW:=Hq ((Below.refl w.heap.size w).alloc Nr (.cells #[.int .i64 x.acc, .int .i64 x.name, .int .i64 x.desc, .int .i64 x.value] 119))
 have C:=Hq (fun W=>eq2 s W Om)
 unfold bq0
 go_enter Tryz.func153,Tryz.ntmps153
 go_wp2_with (go_at_call 154;refine(C.out _).mono ?_;rintro e w1 ⟨rfl,hb⟩;have HB:=Hq (HW.out.trans (hb.mono Sp));clear hb)
 go_ret
 exact⟨rfl,HB.out⟩
theorem iqS (x:aqq) (p1:Nat) (s:ByteArray) (w:World) (h1:cqB w p1 (.string s)) (l1:p1<w.heap.size) (hs:s.size≤65536):
  Calls Tryz.prog 155 #[bq0 x, .pointer (some ⟨p1,0,none⟩)] w fun e w'=>e= .returned (.bool (!aqD s.data.toList))∧Below w.heap.size w w':=by
 have k1:=h1.alloc l1 (.cells #[.int .i64 x.acc, .int .i64 x.name, .int .i64 x.desc, .int .i64 x.value] 119)
 have HW:=Hq ((Below.refl w.heap.size w).alloc Nr (.cells #[.int .i64 x.acc, .int .i64 x.name, .int .i64 x.desc, .int .i64 x.value] 119))
 have C:=Hq (fun W=>dqg s W Om)
 unfold bq0
 go_enter Tryz.func155,Tryz.ntmps155
 go_wp2_with (go_at_call 142;refine(C.out _).mono ?_;rintro e w1 ⟨rfl,hb⟩;have HB:=Hq (HW.out.trans (hb.mono Sp));clear hb)
 go_ret
 exact⟨rfl,HB.out⟩
def bq3 (cacc facc:Int):Bool:=decide (1<dqI facc) || (aqJ cacc 512&& !mqv facc 25)
theorem iqT (x:aqq) (bk:Nat) (c:aqc) (pool ifs flds mths:Value) (w:World) (h1:Bx w bk [.int .i64 c.minor, .int .i64 c.major,pool, .int .i64 c.acc, .int .i64 c.this, .int .i64 c.sup,ifs,flds,mths] 179):
  Calls Tryz.prog 156 #[bq0 x, .pointer (some ⟨bk,0,none⟩)] w fun e w'=>e= .returned (.bool (bq3 c.acc x.acc))∧Below w.heap.size w w':=by
 have HW:=Hq ((Below.refl w.heap.size w).alloc Nr (.cells #[.int .i64 x.acc, .int .i64 x.name, .int .i64 x.desc, .int .i64 x.value] 119))
 have HX:=Hq (h1.below HW.out h1.lt)
 have F0:=Hq (aql w [.int .i64 x.acc, .int .i64 x.name, .int .i64 x.desc, .int .i64 x.value] 119)
 obtain⟨n,hn⟩: ∃n,dqI x.acc=n:=⟨_,rfl⟩
 obtain⟨b2,hb2⟩: ∃b,aqJ c.acc 512=b:=⟨_,rfl⟩
 obtain⟨b3,hb3⟩: ∃b,mqv x.acc 25=b:=⟨_,rfl⟩
 have C1:=Hq (hqI x.acc)
 have C2:=Hq (fun W=>bqM c.acc 512 W)
 have C3:=Hq (fun W=>dqr x.acc 25 W)
 rw [hn] at C1
 rw [hb2] at C2
 rw [hb3] at C3
 have HP:=Hq (show bq3 c.acc x.acc=(decide (1<n) || (b2&& !b3)) by unfold bq3;rw [hn,hb2,hb3])
 rw [HP.out]
 clear h1 hn hb2 hb3
 unfold bq0
 by_cases h1n:1<n
 ·have d1:decide ((n:Int) >1)=true:=by simp;omega
  rw [decide_eq_true h1n]
  go_enter Tryz.func156,Tryz.ntmps156
  go_wp2_with (go_at_call 157;refine(C1.out _).mono ?_;rintro e w1 ⟨rfl,hb⟩;have HB:=Hq (HW.out.trans (hb.mono Sp));clear hb)
  go_ret
  exact⟨by simp,HB.out⟩
 have d1:decide ((n:Int) >1)=false:=by simp;omega
 rw [decide_eq_false h1n]
 cases b2<;>cases b3
 all_goals
  go_enter Tryz.func156,Tryz.ntmps156
  go_wp2_with (first
   | (go_at_call 157;refine(C1.out _).mono ?_;rintro e w1 ⟨rfl,hb⟩;have HB:=Hq (HW.out.trans (hb.mono Sp));have hx3:=(HX.out.below hb HX.out.lt).cell 3 rfl;have hf0:=(F0.out.below hb Sp).cell 0 rfl;clear hb)
   | (go_at_call 149;refine(C2.out _).mono ?_;rintro e w2 ⟨rfl,rfl⟩)
   | (go_at_call 150;refine(C3.out _).mono ?_;rintro e w2 ⟨rfl,rfl⟩))
  go_ret
  exact⟨by simp,HB.out⟩
set_option maxHeartbeats 4000000
def cqt (pool:List Ko) (x:aqq) (d:List UInt8):Bool:=((x.value:Int) !=0)&&(!aqJ x.acc 8|| !(d== [73]) || !(aqt pool x.value 3).isSome)
theorem iqU (x:aqq) (bk p2:Nat) (d:ByteArray) (c:aqc) (A:Option Addr) (cap:Nat) (ifs flds mths:Value) (ok:Nat→Prop) (w:World) (h:aqQ w ok c A cap ifs flds mths) (h1:Bx w bk [.int .i64 c.minor, .int .i64 c.major, .slice A c.pool.length cap, .int .i64 c.acc, .int .i64 c.this, .int .i64 c.sup,ifs,flds,mths] 179) (h2:cqB w p2 (.string d)) (l2:p2<w.heap.size) (hn:bqA x.value):
  Calls Tryz.prog 159 #[bq0 x, .pointer (some ⟨bk,0,none⟩), .pointer (some ⟨p2,0,none⟩)] w fun e w'=>e= .returned (.bool (cqt c.pool x d.data.toList))∧Below w.heap.size w w':=by
 have HW:=Hq ((Below.refl w.heap.size w).alloc Nr (.cells #[.int .i64 x.acc, .int .i64 x.name, .int .i64 x.desc, .int .i64 x.value] 119))
 have HX:=Hq (h1.below HW.out h1.lt)
 have F0:=Hq (aql w [.int .i64 x.acc, .int .i64 x.name, .int .i64 x.desc, .int .i64 x.value] 119)
 have H0:=Hq (h.below HW.out)
 have K2:=Hq (h2.alloc l2 (.cells #[.int .i64 x.acc, .int .i64 x.name, .int .i64 x.desc, .int .i64 x.value] 119))
 have hz0:(w.alloc (.cells #[.int .i64 x.acc, .int .i64 x.name, .int .i64 x.desc, .int .i64 x.value] 119)).heap.size=w.heap.size+1:=by simp
 have HN:=Hq hn
 obtain⟨b1,hb1⟩: ∃b,((x.value:Int) !=0)=b:=⟨_,rfl⟩
 obtain⟨b2,hb2⟩: ∃b,aqJ x.acc 8=b:=⟨_,rfl⟩
 obtain⟨b3,hb3⟩: ∃b,b=(d.data.toList== [73]):=⟨_,rfl⟩
 have e3:(d.toList== [73])=b3:=by rw [ByteArray.toList_eq,hb3]
 have C2:=Hq (fun W=>bqM x.acc 8 W)
 rw [hb2] at C2
 rcases hk:aqt c.pool x.value 3 with _|k
 ·have HK:=Hq hk
  have HP:=Hq (show cqt c.pool x d.data.toList=(b1&&(!b2|| !b3|| !(aqt c.pool x.value 3).isSome)) by unfold cqt;rw [hb1,hb2,hb3])
  rw [HP.out,hk]
  clear h h1 h2 hk hb2 hb3 hn
  unfold bq0
  cases b1<;>cases b2<;>cases b3
  all_goals
   go_enter Tryz.func159,Tryz.ntmps159
   go_wp2_with (first
    | (refine wpList_load_row rfl _ _ rfl bk rfl _ _ _ _ HX.out Tryz.underlying179 rfl Kq9 ?_)
    | (go_at_call 98;refine(bq7 c A cap ifs flds mths x.value 3 ok _ H0.out.hp H0.out.h1 H0.out.h2 H0.out.h3 HN.out.2 HN.out.1).mono ?_;rw [HK.out];rintro e w1 ⟨rfl,hb⟩;simp only [bqc,koV,Option.getD_none,Option.getD_some,Option.isSome_none,Option.isSome_some,aqY];refine aqa ?_))
   have hz1:=hb.size
   rw [hz0] at hz1
   have hba:=hb.trans ((Below.refl w1.heap.size w1).alloc Nr (.cells #[.int .i64 0, .string ⟨#[]⟩, .int .i64 0, .int .i64 0, .int .i64 0] 78) |>.mono hb.size)
   have HB:=Hq (HW.out.trans (hba.mono Om))
   have f0:=(F0.out.below hba Om).cell 0 rfl
   have f3:=(F0.out.below hba Om).cell 3 rfl
   have d0:=(hba.cell (p:=⟨p2,0,none⟩) (show p2<_ by omega)).trans K2.out
   clear hba
   clear hb
   refine aqb ?_
   go_wp2_with (go_at_call 149;refine(C2.out _).mono ?_;rintro e w2 ⟨rfl,rfl⟩)
   go_ret
   exact⟨by simp,HB.out⟩
 have HK:=Hq hk
 have HP:=Hq (show cqt c.pool x d.data.toList=(b1&&(!b2|| !b3|| !(aqt c.pool x.value 3).isSome)) by unfold cqt;rw [hb1,hb2,hb3])
 rw [HP.out,hk]
 clear h h1 h2 hk hb2 hb3 hn
 unfold bq0
 cases b1<;>cases b2<;>cases b3
 all_goals
  go_enter Tryz.func159,Tryz.ntmps159
  go_wp2_with (first
   | (refine wpList_load_row rfl _ _ rfl bk rfl _ _ _ _ HX.out Tryz.underlying179 rfl Kq9 ?_)
   | (go_at_call 98;refine(bq7 c A cap ifs flds mths x.value 3 ok _ H0.out.hp H0.out.h1 H0.out.h2 H0.out.h3 HN.out.2 HN.out.1).mono ?_;rw [HK.out];rintro e w1 ⟨rfl,hb⟩;simp only [bqc,koV,Option.getD_none,Option.getD_some,Option.isSome_none,Option.isSome_some,aqY];refine aqa ?_))
  have hz1:=hb.size
  rw [hz0] at hz1
  have hba:=hb.trans ((Below.refl w1.heap.size w1).alloc Nr (.cells #[.int .i64 k.tag, .string k.text, .int .i64 k.num, .int .i64 k.a, .int .i64 k.b] 78) |>.mono hb.size)
  have HB:=Hq (HW.out.trans (hba.mono Om))
  have f0:=(F0.out.below hba Om).cell 0 rfl
  have f3:=(F0.out.below hba Om).cell 3 rfl
  have d0:=(hba.cell (p:=⟨p2,0,none⟩) (show p2<_ by omega)).trans K2.out
  clear hba
  clear hb
  refine aqb ?_
  go_wp2_with (go_at_call 149;refine(C2.out _).mono ?_;rintro e w2 ⟨rfl,rfl⟩)
  go_ret
  exact⟨by simp,HB.out⟩
end Go.Proofs.YtdbniocnjhfhdaaGreatDoor
