/- Part 28 of what the laws rest on: walks. Conditions: those that each theorem names. -/
import Derived.Test.YtdbniocnjhfhdaaGreatDoorB27
import Derived.Test.YtdbniocnjhfhdaaGreatDoorB22
set_option linter.unusedSimpArgs false
set_option linter.unusedVariables false
set_option maxRecDepth 100000
set_option maxHeartbeats 1000000
namespace Go.Proofs.YtdbniocnjhfhdaaGreatDoor
open Go Go.RowKit Lib
theorem cq3 (c:aqc) (A:Option Addr) (cap:Nat) (ifs flds mths:Value) (n tag:Int) (ok:Nat→Prop) (w:World) (h:bqm w ok 5 c.pool.length (c.pool.flatMap Ko.cells) (.slice A c.pool.length cap)) (hifs:ifs.oneCell'=true) (hflds:flds.oneCell'=true) (hmths:mths.oneCell'=true) (hn:n≤4611686018427387904) (hn0: -4611686018427387904≤n):
  Calls Tryz.prog 91 #[bqb c (.slice A c.pool.length cap) ifs flds mths, .int .i64 n, .int .i64 tag] w fun e w'=>e= .returned (bqc (aqt c.pool n tag))∧Below w.heap.size w w':=by
 have hmax:c.pool.length≤1048576:=by
  obtain⟨_,_,_,_,h2,_⟩:=h
  exact h2
 have hcap:c.pool.length≤cap:=by
  obtain⟨_,_,e,h1,_⟩:=h
  injection e with _ _ e
  subst e
  exact h1
 have hcell:=cql h
 have HC:=Hq hcell
 clear h hcell
 obtain⟨mi,ma,pool,acc,th,su,fi,ff,fm⟩:=c
 simp only at hmax hcap HC⊢
 unfold bqb
 simp only
 by_cases h1:n<1
 ·have HP:=Hq (show aqt pool n tag=none by unfold aqt;rw [if_pos h1])
  go_enter Tryz.func91,Tryz.ntmps91
  go_wp2_with fail
  refine bodyPost_ret (v:=bqc none) (by simp [bqc,koV,aqY,results,Tryz.results91,go_sem]) rfl ⟨by rw [HP.out],(Rf9.alloc Nr _).alloc Sp _⟩
 obtain⟨k,rfl⟩: ∃k:Nat,n=(k:Int)+1:=⟨(n - 1).toNat,by omega⟩
 have hb1:decide ((k:Int)+1<1)=false:=by simp;omega
 rcases hx:pool[k]? with _|x
 ·have hge:pool.length≤k:=by simpa using hx
  have HP:=Hq (show aqt pool ((k:Int)+1) tag=none by unfold aqt;rw [if_neg h1,show((k:Int)+1 - 1).toNat=k by omega,hx])
  have hb2:decide ((pool.length:Int) < (k:Int)+1)=true:=by simp;omega
  have hgt:(pool.length:Int) < (k:Int)+1:=by omega
  have HX:=Hq hx
  clear hx
  go_enter Tryz.func91,Tryz.ntmps91
  go_wp2_with fail
  refine bodyPost_ret (v:=bqc none) (by simp [bqc,koV,aqY,results,Tryz.results91,go_sem]) rfl ⟨by rw [HP.out],(Rf9.alloc Nr _).alloc Sp _⟩
 have hlt:k<pool.length:=(List.getElem?_eq_some_iff.1 hx).1
 have hb2:decide ((pool.length:Int) < (k:Int)+1)=false:=by simp;omega
 have hgt: ¬(pool.length:Int) < (k:Int)+1:=by omega
 obtain⟨b,off,rfl,hbl,c0,c1,c2,c3,c4⟩:=HC.out k x hx
 obtain⟨x1,x2,x3,x4,x5,x6,x7,x8,x9,x10,x11,x12⟩:=far b w.heap.size hbl
 by_cases ht:x.tag=tag
 ·have HP:=Hq (show aqt pool ((k:Int)+1) tag=some x by unfold aqt;rw [if_neg h1,show((k:Int)+1 - 1).toNat=k by omega,hx];simp [ht])
  subst ht
  clear hx
  go_enter Tryz.func91,Tryz.ntmps91
  go_wp2_with fail
  refine bodyPost_ret (v:=bqc (some x)) (by simp [bqc,koV,aqY,results,Tryz.results91,go_sem]) rfl ⟨by rw [HP.out],(Rf9.alloc Nr _).alloc Sp _⟩
 have HP:=Hq (show aqt pool ((k:Int)+1) tag=none by unfold aqt;rw [if_neg h1,show((k:Int)+1 - 1).toNat=k by omega,hx];simp [ht])
 have hb3:(x.tag !=tag)=true:=by simp [ht]
 clear hx ht
 go_enter Tryz.func91,Tryz.ntmps91
 go_wp2_with fail
 refine bodyPost_ret (v:=bqc none) (by simp [bqc,koV,aqY,results,Tryz.results91,go_sem]) rfl ⟨by rw [HP.out],(Rf9.alloc Nr _).alloc Sp _⟩
theorem fqn (c:aqc) (A:Option Addr) (cap:Nat) (ifs flds mths:Value) (n:Int) (ok:Nat→Prop) (w:World) (h:aqQ w ok c A cap ifs flds mths) (hn:bqA n):
  Calls Tryz.prog 90 #[bqb c (.slice A c.pool.length cap) ifs flds mths, .int .i64 n] w fun e w'=>e= .returned (cqh (aqf c.pool n))∧Below w.heap.size w w':=by
 have H:=Hq (h.below (Rf9.alloc Nr (.cells #[.int .i64 c.minor, .int .i64 c.major, .slice A c.pool.length cap, .int .i64 c.acc, .int .i64 c.this, .int .i64 c.sup,ifs,flds,mths] 58)))
 have HN:=Hq hn
 have HT:=Hq (show aqf c.pool n=(aqt c.pool n 1).map (·.text) from rfl)
 rcases hx:aqt c.pool n 1 with _|x
 all_goals
  have HX:=Hq hx
  clear h hn hx
  rw [aqe]
  go_enter Tryz.func90,Tryz.ntmps90
  go_wp2_with (go_at_call 91;refine(cq3 c A cap ifs flds mths n 1 ok _ H.out.hp H.out.h1 H.out.h2 H.out.h3 HN.out.2 HN.out.1).mono ?_;rw [HX.out];rintro e w1 ⟨rfl,hb⟩;simp only [bqc,koV,Option.getD_none,Option.getD_some,Option.isSome_none,Option.isSome_some,aqY];have HB:=Hq hb;clear hb)
  go_ret2
  refine⟨?_,((Rf9.alloc Nr _).trans (HB.out.mono Sp)).alloc (by have:=HB.out.size;simp at this;omega) _⟩
  rw [HT.out,HX.out]
  rfl
theorem lq1 (c:aqc) (A:Option Addr) (cap:Nat) (ifs flds mths:Value) (n:Int) (ok:Nat→Prop) (w:World) (h:aqQ w ok c A cap ifs flds mths) (hn:bqA n) (hf: ∀k∈c.pool,bqA k.a):
  Calls Tryz.prog 89 #[bqb c (.slice A c.pool.length cap) ifs flds mths, .int .i64 n] w fun e w'=>e= .returned (cqh (aqE c.pool n))∧Below w.heap.size w w':=by
 have H:=Hq (h.below (Rf9.alloc Nr (.cells #[.int .i64 c.minor, .int .i64 c.major, .slice A c.pool.length cap, .int .i64 c.acc, .int .i64 c.this, .int .i64 c.sup,ifs,flds,mths] 58)))
 have X0:=Hq (aql w [.int .i64 c.minor, .int .i64 c.major, .slice A c.pool.length cap, .int .i64 c.acc, .int .i64 c.this, .int .i64 c.sup,ifs,flds,mths] 58)
 have HN:=Hq hn
 have HF:=Hq hf
 have HT:=Hq (show aqE c.pool n=(aqt c.pool n 7).bind fun k=>aqf c.pool k.a from rfl)
 rcases hx:aqt c.pool n 7 with _|x
 ·have HX:=Hq hx
  clear h hn hx hf
  rw [aqe]
  go_enter Tryz.func89,Tryz.ntmps89
  go_wp2_with (go_at_call 91;refine(cq3 c A cap ifs flds mths n 7 ok _ H.out.hp H.out.h1 H.out.h2 H.out.h3 HN.out.2 HN.out.1).mono ?_;rw [HX.out];rintro e w1 ⟨rfl,hb⟩;simp only [bqc,koV,Option.getD_none,Option.getD_some,Option.isSome_none,Option.isSome_some,aqY];have HB:=Hq hb;clear hb)
  go_ret2
  refine⟨?_,((Rf9.alloc Nr _).trans (HB.out.mono Sp)).alloc (by have:=HB.out.size;simp at this;omega) _⟩
  rw [HT.out,HX.out]
  rfl
 have HX:=Hq hx
 have HXF:=Hq (HF.out x (cqm hx).1)
 clear h hn hx hf
 rw [aqe]
 go_enter Tryz.func89,Tryz.ntmps89
 go_wp2_with (go_at_call 91;refine(cq3 c A cap ifs flds mths n 7 ok _ H.out.hp H.out.h1 H.out.h2 H.out.h3 HN.out.2 HN.out.1).mono ?_;rw [HX.out];rintro e w1 ⟨rfl,hb⟩;simp only [bqc,koV,Option.getD_none,Option.getD_some,Option.isSome_none,Option.isSome_some,aqY];refine aqa ?_)
 have HB:=Hq hb
 have hz:=hb.size
 simp at hz
 have X1:=Hq (X0.out.below hb Sp)
 have H1:=Hq (H.out.below hb)
 clear hb
 obtain⟨x1,x2,x3,x4,x5,x6,x7,x8,x9,x10,x11,x12⟩:=far w.heap.size w1.heap.size Om
 have c0:=X1.out.cell 0 rfl
 have c1:=X1.out.cell 1 rfl
 have c2:=X1.out.cell 2 rfl
 have c3:=X1.out.cell 3 rfl
 have c4:=X1.out.cell 4 rfl
 have c5:=X1.out.cell 5 rfl
 have c6:=X1.out.cell 6 rfl
 have c7:=X1.out.cell 7 rfl
 have c8:=X1.out.cell 8 rfl
 refine aqb ?_
 go_wp2_with (go_at_call 90;refine aqa ?_)
 refine aqb ?_
 refine(fqn c A cap ifs flds mths x.a ok _ (H1.out.below (Rf9.alloc Nr _)) HXF.out).mono ?_
 rintro e w2 ⟨rfl,hb2⟩
 simp only [cqh]
 have HB2:=Hq hb2
 clear hb2
 go_wp2_with fail
 go_ret2
 refine⟨?_,(((Rf9.alloc Nr _).trans (HB.out.mono Sp)).alloc Om _).trans (HB2.out.mono Sd)⟩
 rw [HT.out,HX.out]
 rfl
def nqq (pool:List Ko):Option Ko→ByteArray×ByteArray×Bool
 |none=> (⟨#[]⟩,⟨#[]⟩,false)
 |some k=> ((aqf pool k.a).getD ⟨#[]⟩,(aqf pool k.b).getD ⟨#[]⟩,(aqf pool k.a).isSome&&(aqf pool k.b).isSome)
def dqO (pool:List Ko) (n:Int):ByteArray×ByteArray×Bool:=nqq pool (aqt pool n 12)
def nqr (v:ByteArray×ByteArray×Bool):Value:= .tuple #[.string v.1, .string v.2.1, .bool v.2.2]
theorem kqB (pool:List Ko) (n:Int):dqB pool n=if(dqO pool n).2.2=true then some ((dqO pool n).1,(dqO pool n).2.1) else none:=by
 unfold dqB dqO
 cases aqt pool n 12 with
 |none=>rfl
 |some k=>
  simp only [Option.bind_some,nqq]
  obtain⟨a,ha⟩: ∃a,aqf pool k.a=a:=⟨_,rfl⟩
  obtain⟨b,hb⟩: ∃a,aqf pool k.b=a:=⟨_,rfl⟩
  simp only [ha,hb]
  cases a<;>cases b<;>rfl
theorem fq4 (c:aqc) (A:Option Addr) (cap:Nat) (ifs flds mths:Value) (n:Int) (ok:Nat→Prop) (w:World) (h:aqQ w ok c A cap ifs flds mths) (hn:bqA n) (hf: ∀k∈c.pool,bqA k.a∧bqA k.b):
  Calls Tryz.prog 110 #[bqb c (.slice A c.pool.length cap) ifs flds mths, .int .i64 n] w fun e w'=>e= .returned (nqr (dqO c.pool n))∧Below w.heap.size w w':=by
 have H:=Hq (h.below (Rf9.alloc Nr (.cells #[.int .i64 c.minor, .int .i64 c.major, .slice A c.pool.length cap, .int .i64 c.acc, .int .i64 c.this, .int .i64 c.sup,ifs,flds,mths] 58)))
 have X0:=Hq (aql w [.int .i64 c.minor, .int .i64 c.major, .slice A c.pool.length cap, .int .i64 c.acc, .int .i64 c.this, .int .i64 c.sup,ifs,flds,mths] 58)
 have W0:=Hq ((Below.refl w.heap.size w).alloc Nr (.cells #[.int .i64 c.minor, .int .i64 c.major, .slice A c.pool.length cap, .int .i64 c.acc, .int .i64 c.this, .int .i64 c.sup,ifs,flds,mths] 58))
 have HN:=Hq hn
 have HF:=Hq hf
 have HT:=Hq (show dqO c.pool n=nqq c.pool (aqt c.pool n 12) from rfl)
 rcases hx:aqt c.pool n 12 with _|x
 ·have HX:=Hq hx
  clear h hn hx hf
  rw [aqe]
  go_enter Tryz.func110,Tryz.ntmps110
  go_wp2_with (go_at_call 91;refine(cq3 c A cap ifs flds mths n 12 ok _ H.out.hp H.out.h1 H.out.h2 H.out.h3 HN.out.2 HN.out.1).mono ?_;rw [HX.out];rintro e w1 ⟨rfl,hb⟩;simp only [bqc,koV,Option.getD_none,Option.getD_some,Option.isSome_none,Option.isSome_some,aqY];have HB:=Hq hb;clear hb)
  refine bodyPost_ret (eqa rfl rfl rfl rfl _) rfl ?_
  refine⟨?_,(W0.out.trans (HB.out.mono Sp)).alloc (by have:=HB.out.size;simp at this;omega) _⟩
  rw [HT.out,HX.out]
  rfl
 have HX:=Hq hx
 have HXF:=Hq (HF.out x (cqm hx).1)
 clear h hn hx hf
 rcases hxa:aqf c.pool x.a with _|sa<;>rcases hxb:aqf c.pool x.b with _|sb
 all_goals
  have HXA:=Hq hxa
  have HXB:=Hq hxb
  clear hxa hxb
  rw [aqe]
  go_enter Tryz.func110,Tryz.ntmps110
  go_wp2_with (go_at_call 91;refine(cq3 c A cap ifs flds mths n 12 ok _ H.out.hp H.out.h1 H.out.h2 H.out.h3 HN.out.2 HN.out.1).mono ?_;rw [HX.out];rintro e w1 ⟨rfl,hb⟩;simp only [bqc,koV,Option.getD_none,Option.getD_some,Option.isSome_none,Option.isSome_some,aqY];refine aqa ?_)
  have hz:=hb.size
  simp at hz
  have X1:=Hq ((X0.out.below hb Sp).below ((Below.refl w1.heap.size w1).alloc Nr (.cells #[.int .i64 x.tag, .string x.text, .int .i64 x.num, .int .i64 x.a, .int .i64 x.b] 78)) Om)
  have H1:=Hq ((H.out.below hb).below ((Below.refl w1.heap.size w1).alloc Nr (.cells #[.int .i64 x.tag, .string x.text, .int .i64 x.num, .int .i64 x.a, .int .i64 x.b] 78)))
  have Y1:=Hq (aql w1 [.int .i64 x.tag, .string x.text, .int .i64 x.num, .int .i64 x.a, .int .i64 x.b] 78)
  have W1:=Hq ((W0.out.trans (hb.mono Sp)).alloc Om (.cells #[.int .i64 x.tag, .string x.text, .int .i64 x.num, .int .i64 x.a, .int .i64 x.b] 78))
  clear hb H X0 W0
  refine aqb ?_
  go_wp2_with (first
   | (refine wpList_load_row rfl _ _ rfl w.heap.size rfl _ _ _ _ X1.out Tryz.underlying58 rfl Kq9 ?_)
   | (go_at_call 90;refine aqa ?_))
  refine aqb ?_
  refine(fqn c A cap ifs flds mths x.a ok _ H1.out HXF.out.1).mono ?_
  rw [HXA.out]
  rintro e w2 ⟨rfl,hb2⟩
  simp only [cqh,Option.getD_none,Option.getD_some,Option.isSome_none,Option.isSome_some]
  have hz2:=hb2.size
  simp at hz2
  have X2:=Hq (X1.out.below hb2 X1.out.lt)
  have Y2:=Hq (Y1.out.below hb2 Y1.out.lt)
  have H2:=Hq (H1.out.below hb2)
  have W2:=Hq (W1.out.trans (hb2.mono W1.out.size))
  have y4:=Y2.out.cell 4 rfl
  clear hb2 X1 Y1 H1 W1
  go_wp2_with (first
   | (refine wpList_load_row rfl _ _ rfl w.heap.size rfl _ _ _ _ X2.out Tryz.underlying58 rfl Kq9 ?_)
   | (go_at_call 90;refine(fqn c A cap ifs flds mths x.b ok _ H2.out HXF.out.2).mono ?_;rw [HXB.out];rintro e w3 ⟨rfl,hb3⟩;simp only [cqh,Option.getD_none,Option.getD_some,Option.isSome_none,Option.isSome_some];have W3:=Hq (W2.out.trans (hb3.mono W2.out.size));clear hb3))
  refine bodyPost_ret (eqa rfl rfl rfl rfl _) rfl ?_
  refine⟨?_,W3.out⟩
  rw [HT.out,HX.out]
  simp only [nqq,HXA.out,HXB.out]
  rfl
set_option maxHeartbeats 4000000
theorem jqQ {w:World} {ok:Nat→Prop} {l:List UInt8} {A:Option Addr} {cap:Nat} (h:bqm w ok 1 l.length (l.map bV) (.slice A l.length cap)):RdB w A l.length cap l:=by
 obtain⟨A',cap',e,h1,h2,h3,h4⟩:=h
 cases e
 exact⟨rfl,h1,by omega,fun h0=>by
  obtain⟨b,off,e,hb,_,hc⟩:=h4 h0
  exact⟨b,off,e,hb,fun i hi=>by
   rw [hc i _ (by rw [List.getElem?_map,List.getElem?_eq_getElem hi];rfl)]
   simp [bV,byt,List.getD,List.getElem?_eq_getElem hi]⟩⟩
theorem nqs (w:World) (a b c d:Int):(binOp .neq 157 (.agg #[.int .i64 a, .int .i64 b, .int .i64 c, .int .i64 d]) (.agg #[.int .i64 a, .int .i64 b, .int .i64 c, .int .i64 d])).run Tryz.prog w= .ok (.bool false) w:=by
 go_simp
theorem lq2 (x:aqr) (c1 t1 c2 t2:Value) (ok1 ok2:Nat→Prop) (w:World) (h1:aqO w ok1 x c1 t1) (h2:aqO w ok2 x c2 t2):
  Calls Tryz.prog 63 #[bqL x c1 t1,bqL x c2 t2] w fun e w'=>e= .returned (.bool true)∧Below w.heap.size w w':=by
 obtain⟨A1,k1,rfl,q1,z1⟩:=aqd h1.hcode
 obtain⟨B1,l1,rfl,p1,y1⟩:=aqd h1.htraps
 obtain⟨A2,k2,rfl,q2,z2⟩:=aqd h2.hcode
 obtain⟨B2,l2,rfl,p2,y2⟩:=aqd h2.htraps
 obtain⟨acc,nm,ds,has,stack,locals,code,traps⟩:=x
 have hr1:=jqQ h1.hcode
 have hr2:=jqQ h2.hcode
 have HT1:=Hq h1.htraps
 have HT2:=Hq h2.htraps
 simp only at hr1 hr2 HT1 HT2 z1 y1 p1 p2
 have hb:Below w.heap.size w ((w.alloc (.cells #[.int .i64 acc, .int .i64 nm, .int .i64 ds, .bool has, .int .i64 stack, .int .i64 locals, .slice A1 code.length k1, .slice B1 traps.length l1] 91)).alloc (.cells #[.int .i64 acc, .int .i64 nm, .int .i64 ds, .bool has, .int .i64 stack, .int .i64 locals, .slice A2 code.length k2, .slice B2 traps.length l2] 91)):=(Rf9.alloc Nr _).alloc Sp _
 have hcv1:=(hr1.below hb).str
 have hcv2:=(hr2.below hb).str
 have HB:=Hq hb
 have X1:=Hq ((aql w [.int .i64 acc, .int .i64 nm, .int .i64 ds, .bool has, .int .i64 stack, .int .i64 locals, .slice A1 code.length k1, .slice B1 traps.length l1] 91).below (Rf9.alloc Nr (.cells #[.int .i64 acc, .int .i64 nm, .int .i64 ds, .bool has, .int .i64 stack, .int .i64 locals, .slice A2 code.length k2, .slice B2 traps.length l2] 91)) Sp)
 have X2:=Hq (aql (w.alloc (.cells #[.int .i64 acc, .int .i64 nm, .int .i64 ds, .bool has, .int .i64 stack, .int .i64 locals, .slice A1 code.length k1, .slice B1 traps.length l1] 91)) [.int .i64 acc, .int .i64 nm, .int .i64 ds, .bool has, .int .i64 stack, .int .i64 locals, .slice A2 code.length k2, .slice B2 traps.length l2] 91)
 clear h1 h2 hr1 hr2 hb
 unfold bqL
 simp only
 go_enter Tryz.func63,Tryz.ntmps63
 go_wp2_with fail
 go_loopw [5] (fun i wr=> ∃k:Nat,k≤traps.length∧i= .int .i64 k∧Hid (Below w.heap.size w wr)∧Hid (Bx wr w.heap.size [.int .i64 acc, .int .i64 nm, .int .i64 ds, .bool has, .int .i64 stack, .int .i64 locals, .slice A1 code.length k1, .slice B1 traps.length l1] 91)∧Hid (Bx wr (w.heap.size+1) [.int .i64 acc, .int .i64 nm, .int .i64 ds, .bool has, .int .i64 stack, .int .i64 locals, .slice A2 code.length k2, .slice B2 traps.length l2] 91)) (fun i _=>traps.length - (RowKit.intOf i).toNat)
 case atStart=>exact⟨0,by omega,rfl,HB,X1,by simpa using X2⟩
 case round=>
  obtain⟨k,hk,rfl,HBr,Y1,Y2⟩:=hrel
  have c1:=Y1.out.cell 7 rfl
  have c2:=Y2.out.cell 7 rfl
  by_cases hlt:k<traps.length
  ·obtain⟨x,hx⟩: ∃x,traps[k]?=some x:=⟨_,List.getElem?_eq_getElem hlt⟩
   obtain⟨b1,o1,rfl,g1,a0,a1,a2,a3⟩:=cqJ (HT1.out.keep (aqC.of_below HBr.out)) k x hx
   obtain⟨b2,o2,rfl,g2,e0,e1,e2,e3⟩:=cqJ (HT2.out.keep (aqC.of_below HBr.out)) k x hx
   have hnq:=nqs
   have HBn:=Hq (fun m=>HBr.out.trans (below_drewN (Below.refl w.heap.size wr) m))
   have Yn:=Hq (fun m=>Y1.out.below (below_drewN (Below.refl wr.heap.size wr) m) Y1.out.lt)
   have Zn:=Hq (fun m=>Y2.out.below (below_drewN (Below.refl wr.heap.size wr) m) Y2.out.lt)
   clear hx
   go_wp2_with fail
   go_quiet (fail)
   go_wp2_with fail
   go_roundw
   case rel=>exact⟨k+1,by omega,by go_num,Hq (HBn.out _),Hq (Yn.out _),Hq (Zn.out _)⟩
   case measure=>simp [RowKit.intOf];omega
  go_wp2_with fail
  go_ret
  exact⟨rfl,HBr.out⟩
theorem oqW (w:World) (k:Ko):(binOp .neq 78 (.agg #[.int .i64 k.tag, .string k.text, .int .i64 k.num, .int .i64 k.a, .int .i64 k.b]) (.agg #[.int .i64 k.tag, .string k.text, .int .i64 k.num, .int .i64 k.a, .int .i64 k.b])).run Tryz.prog w= .ok (.bool false) w:=by
 go_simp
theorem oqs (w:World) (a b c d:Int):(binOp .neq 119 (.agg #[.int .i64 a, .int .i64 b, .int .i64 c, .int .i64 d]) (.agg #[.int .i64 a, .int .i64 b, .int .i64 c, .int .i64 d])).run Tryz.prog w= .ok (.bool false) w:=by
 go_simp
structure nqX (w:World) (ca cb:List Value) (wr:World):Prop where
 bel:Below w.heap.size w wr
 x1:Bx wr w.heap.size ca 58
 x2:Bx wr (w.heap.size+1) cb 58
theorem nqX.below {w W W':World} {ca cb:List Value} (h:nqX w ca cb W) (hb:Below W.heap.size W W'):nqX w ca cb W':=
 ⟨h.bel.trans (hb.mono h.bel.size),h.x1.below hb h.x1.lt,h.x2.below hb h.x2.lt⟩
theorem cqU {w:World} {ok:Nat→Prop} {l:List Int} {A:Option Addr} {cap:Nat} (h:bqm w ok 1 l.length (l.map (Value.int .i64)) (.slice A l.length cap)): ∀(k:Nat) (x:Int),l[k]?=some x→ ∃b off,A=some ⟨b,off,none⟩∧b<w.heap.size∧w.cell? ⟨b,off+k,none⟩=some (.int .i64 x):=by
 intro k x hk
 obtain⟨A',cap',e,_,_,_,h5⟩:=h
 cases e
 obtain⟨b,off,e,hlt,_,hc⟩:=h5 (by have:=(List.getElem?_eq_some_iff.1 hk).1;omega)
 exact⟨b,off,e,hlt,hc _ _ (by rw [List.getElem?_map,hk];rfl)⟩
theorem kqC (c:aqc) (a1 a2 a3 a4 b1 b2 b3 b4:Value) (ok1 ok2:Nat→Prop) (w:World) (h1:aqy w ok1 c a1 a2 a3 a4) (h2:aqy w ok2 c b1 b2 b3 b4):
  Calls Tryz.prog 38 #[bqb c a1 a2 a3 a4,bqb c b1 b2 b3 b4] w fun e w'=>e= .returned (.bool true)∧Below w.heap.size w w':=by
 obtain⟨P1,p1,rfl,_,zp1⟩:=aqd h1.hpool
 obtain⟨I1,i1,rfl,_,zi1⟩:=aqd h1.hifs
 obtain⟨F1,f1,rfl,_,zf1⟩:=aqd h1.hflds
 obtain⟨ms1,e1,s1,r1⟩:=h1.hmths
 obtain⟨M1,m1,rfl,_,zm1⟩:=aqd s1
 obtain⟨P2,p2,rfl,_,zp2⟩:=aqd h2.hpool
 obtain⟨I2,i2,rfl,_,zi2⟩:=aqd h2.hifs
 obtain⟨F2,f2,rfl,_,zf2⟩:=aqd h2.hflds
 obtain⟨ms2,e2,s2,r2⟩:=h2.hmths
 obtain⟨M2,m2,rfl,_,zm2⟩:=aqd s2
 have HP1:=Hq h1.hpool
 have HP2:=Hq h2.hpool
 have HI1:=Hq h1.hifs
 have HI2:=Hq h2.hifs
 have HF1:=Hq h1.hflds
 have HF2:=Hq h2.hflds
 have HE1:=Hq e1
 have HE2:=Hq e2
 have HS1:=Hq s1
 have HS2:=Hq s2
 have HR1:=Hq r1
 have HR2:=Hq r2
 have H0:=Hq (show nqX w [.int .i64 c.minor, .int .i64 c.major, .slice P1 c.pool.length p1, .int .i64 c.acc, .int .i64 c.this, .int .i64 c.sup, .slice I1 c.ifs.length i1, .slice F1 c.flds.length f1, .slice M1 c.mths.length m1] [.int .i64 c.minor, .int .i64 c.major, .slice P2 c.pool.length p2, .int .i64 c.acc, .int .i64 c.this, .int .i64 c.sup, .slice I2 c.ifs.length i2, .slice F2 c.flds.length f2, .slice M2 c.mths.length m2] _ from⟨(Rf9.alloc Nr (.cells #[.int .i64 c.minor, .int .i64 c.major, .slice P1 c.pool.length p1, .int .i64 c.acc, .int .i64 c.this, .int .i64 c.sup, .slice I1 c.ifs.length i1, .slice F1 c.flds.length f1, .slice M1 c.mths.length m1] 58)).alloc Sp (.cells #[.int .i64 c.minor, .int .i64 c.major, .slice P2 c.pool.length p2, .int .i64 c.acc, .int .i64 c.this, .int .i64 c.sup, .slice I2 c.ifs.length i2, .slice F2 c.flds.length f2, .slice M2 c.mths.length m2] 58),
  (aql w [.int .i64 c.minor, .int .i64 c.major, .slice P1 c.pool.length p1, .int .i64 c.acc, .int .i64 c.this, .int .i64 c.sup, .slice I1 c.ifs.length i1, .slice F1 c.flds.length f1, .slice M1 c.mths.length m1] 58).below (Rf9.alloc Nr _) Sp,by simpa using aql (w.alloc (.cells #[.int .i64 c.minor, .int .i64 c.major, .slice P1 c.pool.length p1, .int .i64 c.acc, .int .i64 c.this, .int .i64 c.sup, .slice I1 c.ifs.length i1, .slice F1 c.flds.length f1, .slice M1 c.mths.length m1] 58)) [.int .i64 c.minor, .int .i64 c.major, .slice P2 c.pool.length p2, .int .i64 c.acc, .int .i64 c.this, .int .i64 c.sup, .slice I2 c.ifs.length i2, .slice F2 c.flds.length f2, .slice M2 c.mths.length m2] 58⟩)
 clear h1 h2 e1 e2 s1 s2 r1 r2
 rw [aqe,aqe]
 go_enter Tryz.func38,Tryz.ntmps38
 go_wp2_with fail
 go_loopw [5] (fun i wr=> ∃k:Nat,k≤c.pool.length∧i= .int .i64 k∧Hid (nqX w [.int .i64 c.minor, .int .i64 c.major, .slice P1 c.pool.length p1, .int .i64 c.acc, .int .i64 c.this, .int .i64 c.sup, .slice I1 c.ifs.length i1, .slice F1 c.flds.length f1, .slice M1 c.mths.length m1] [.int .i64 c.minor, .int .i64 c.major, .slice P2 c.pool.length p2, .int .i64 c.acc, .int .i64 c.this, .int .i64 c.sup, .slice I2 c.ifs.length i2, .slice F2 c.flds.length f2, .slice M2 c.mths.length m2] wr)) (fun i _=>c.pool.length - (RowKit.intOf i).toNat)
 case atStart=>exact⟨0,by omega,rfl,H0⟩
 case round=>
  obtain⟨k,hk,rfl,HW⟩:=hrel
  have c1:=HW.out.x1.cell 2 rfl
  have c2:=HW.out.x2.cell 2 rfl
  by_cases hlt:k<c.pool.length
  ·obtain⟨x,hx⟩: ∃x,c.pool[k]?=some x:=⟨_,List.getElem?_eq_getElem hlt⟩
   obtain⟨b1,o1,rfl,g1,x0,x1,x2,x3,x4⟩:=cql (HP1.out.keep (aqC.of_below HW.out.bel)) k x hx
   obtain⟨b2,o2,rfl,g2,y0,y1,y2,y3,y4⟩:=cql (HP2.out.keep (aqC.of_below HW.out.bel)) k x hx
   have hnq:=oqW
   have HWn:=Hq (fun m=>HW.out.below (below_drewN (Below.refl wr.heap.size wr) m))
   clear hx
   go_wp2_with fail
   go_quiet (fail)
   go_wp2_with fail
   go_roundw
   case rel=>exact⟨k+1,by omega,by go_num,Hq (HWn.out _)⟩
   case measure=>simp [RowKit.intOf];omega
  go_wp2_with fail
  go_loopw [6] (fun i wr=> ∃k:Nat,k≤c.ifs.length∧i= .int .i64 k∧Hid (nqX w [.int .i64 c.minor, .int .i64 c.major, .slice P1 c.pool.length p1, .int .i64 c.acc, .int .i64 c.this, .int .i64 c.sup, .slice I1 c.ifs.length i1, .slice F1 c.flds.length f1, .slice M1 c.mths.length m1] [.int .i64 c.minor, .int .i64 c.major, .slice P2 c.pool.length p2, .int .i64 c.acc, .int .i64 c.this, .int .i64 c.sup, .slice I2 c.ifs.length i2, .slice F2 c.flds.length f2, .slice M2 c.mths.length m2] wr)) (fun i _=>c.ifs.length - (RowKit.intOf i).toNat)
  case atStart=>exact⟨0,by omega,rfl,HW⟩
  case round=>
   obtain⟨k,hk,rfl,HW⟩:=hrel
   have c1:=HW.out.x1.cell 6 rfl
   have c2:=HW.out.x2.cell 6 rfl
   by_cases hlt:k<c.ifs.length
   ·obtain⟨x,hx⟩: ∃x,c.ifs[k]?=some x:=⟨_,List.getElem?_eq_getElem hlt⟩
    obtain⟨b1,o1,rfl,g1,x0⟩:=cqU (HI1.out.keep (aqC.of_below HW.out.bel)) k x hx
    obtain⟨b2,o2,rfl,g2,y0⟩:=cqU (HI2.out.keep (aqC.of_below HW.out.bel)) k x hx
    have hnq:=True.intro
    have HWn:=Hq (fun m=>HW.out.below (below_drewN (Below.refl wr.heap.size wr) m))
    clear hx
    go_wp2_with fail
    go_quiet (fail)
    go_wp2_with fail
    go_roundw
    case rel=>exact⟨k+1,by omega,by go_num,Hq (HWn.out _)⟩
    case measure=>simp [RowKit.intOf];omega
   go_wp2_with fail
   go_loopw [7] (fun i wr=> ∃k:Nat,k≤c.flds.length∧i= .int .i64 k∧Hid (nqX w [.int .i64 c.minor, .int .i64 c.major, .slice P1 c.pool.length p1, .int .i64 c.acc, .int .i64 c.this, .int .i64 c.sup, .slice I1 c.ifs.length i1, .slice F1 c.flds.length f1, .slice M1 c.mths.length m1] [.int .i64 c.minor, .int .i64 c.major, .slice P2 c.pool.length p2, .int .i64 c.acc, .int .i64 c.this, .int .i64 c.sup, .slice I2 c.ifs.length i2, .slice F2 c.flds.length f2, .slice M2 c.mths.length m2] wr)) (fun i _=>c.flds.length - (RowKit.intOf i).toNat)
   case atStart=>exact⟨0,by omega,rfl,HW⟩
   case round=>
    obtain⟨k,hk,rfl,HW⟩:=hrel
    have c1:=HW.out.x1.cell 7 rfl
    have c2:=HW.out.x2.cell 7 rfl
    by_cases hlt:k<c.flds.length
    ·obtain⟨x,hx⟩: ∃x,c.flds[k]?=some x:=⟨_,List.getElem?_eq_getElem hlt⟩
     obtain⟨b1,o1,rfl,g1,x0,x1,x2,x3⟩:=cqv (HF1.out.keep (aqC.of_below HW.out.bel)) k x hx
     obtain⟨b2,o2,rfl,g2,y0,y1,y2,y3⟩:=cqv (HF2.out.keep (aqC.of_below HW.out.bel)) k x hx
     have hnq:=oqs
     have HWn:=Hq (fun m=>HW.out.below (below_drewN (Below.refl wr.heap.size wr) m))
     clear hx
     go_wp2_with fail
     go_quiet (fail)
     go_wp2_with fail
     go_roundw
     case rel=>exact⟨k+1,by omega,by go_num,Hq (HWn.out _)⟩
     case measure=>simp [RowKit.intOf];omega
    go_wp2_with fail
    go_loopw [8] (fun i wr=> ∃k:Nat,k≤c.mths.length∧i= .int .i64 k∧Hid (nqX w [.int .i64 c.minor, .int .i64 c.major, .slice P1 c.pool.length p1, .int .i64 c.acc, .int .i64 c.this, .int .i64 c.sup, .slice I1 c.ifs.length i1, .slice F1 c.flds.length f1, .slice M1 c.mths.length m1] [.int .i64 c.minor, .int .i64 c.major, .slice P2 c.pool.length p2, .int .i64 c.acc, .int .i64 c.this, .int .i64 c.sup, .slice I2 c.ifs.length i2, .slice F2 c.flds.length f2, .slice M2 c.mths.length m2] wr)) (fun i _=>c.mths.length - (RowKit.intOf i).toNat)
    case atStart=>exact⟨0,by omega,rfl,HW⟩
    case round=>
     obtain⟨k,hk,rfl,HW⟩:=hrel
     have c1:=HW.out.x1.cell 8 rfl
     have c2:=HW.out.x2.cell 8 rfl
     by_cases hlt:k<c.mths.length
     ·obtain⟨⟨x1,u1,v1⟩,hx1⟩: ∃q,ms1[k]?=some q:=⟨_,List.getElem?_eq_getElem (by rw [←HE1.out,List.length_map] at hlt;exact hlt)⟩
      obtain⟨⟨x2,u2,v2⟩,hx2⟩: ∃q,ms2[k]?=some q:=⟨_,List.getElem?_eq_getElem (by rw [←HE2.out,List.length_map] at hlt;exact hlt)⟩
      obtain rfl:x1=x2:=by
       have e1:c.mths[k]?=some x1:=by rw [←HE1.out,List.getElem?_map,hx1];rfl
       have e2:c.mths[k]?=some x2:=by rw [←HE2.out,List.getElem?_map,hx2];rfl
       exact Option.some.inj (e1.symm.trans e2)
      obtain⟨b1,o1,rfl,g1,y0,y1,y2,y3,y4,y5,y6,y7⟩:=dqf (HS1.out.keep (aqC.of_below HW.out.bel)) (by rw [←HE1.out,List.length_map]) k x1 u1 v1 hx1
      obtain⟨b2,o2,rfl,g2,z0,z1,z2,z3,z4,z5,z6,z7⟩:=dqf (HS2.out.keep (aqC.of_below HW.out.bel)) (by rw [←HE2.out,List.length_map]) k x1 u2 v2 hx2
      have q1:=HR1.out _ (List.mem_of_getElem? hx1)
      have q2:=HR2.out _ (List.mem_of_getElem? hx2)
      have k1:=aqC.of_below (ok:=ok1) HW.out.bel
      have k2:=aqC.of_below (ok:=ok2) HW.out.bel
      have HM:=Hq (fun W (hb:Below wr.heap.size wr W)=>lq2 x1 u1 v1 u2 v2 ok1 ok2 W ⟨(q1.hcode.keep k1).keep (aqC.of_below hb),(q1.htraps.keep k1).keep (aqC.of_below hb)⟩ ⟨(q2.hcode.keep k2).keep (aqC.of_below hb),(q2.htraps.keep k2).keep (aqC.of_below hb)⟩)
      unfold bqL at HM
      obtain⟨A1,n1,c3,rfl⟩: ∃A n c,u1= .slice A n c:=by obtain⟨A,c,e,_⟩:=aqd q1.hcode;exact⟨_,_,_,e⟩
      obtain⟨A2,n2,c4,rfl⟩: ∃A n c,v1= .slice A n c:=by obtain⟨A,c,e,_⟩:=aqd q1.htraps;exact⟨_,_,_,e⟩
      obtain⟨A3,n3,c5,rfl⟩: ∃A n c,u2= .slice A n c:=by obtain⟨A,c,e,_⟩:=aqd q2.hcode;exact⟨_,_,_,e⟩
      obtain⟨A4,n4,c6,rfl⟩: ∃A n c,v2= .slice A n c:=by obtain⟨A,c,e,_⟩:=aqd q2.htraps;exact⟨_,_,_,e⟩
      clear hx1 hx2 q1 q2 k1 k2
      go_wp2_with fail
      refine bqW 10 Kq9 Kq9 ?_
      simp only [List.take_succ_cons,List.take_zero,List.drop_succ_cons,List.drop_zero]
      repeat go_big_quiet_step (fail)
      refine wpQuiet_nil ?_
      go_wp2_with (go_at_call 63;refine(HM.out _ (below_drewN Rf9 _)).mono ?_;rintro e w3 ⟨rfl,hb3⟩;have HW3:=Hq ((HW.out.below (below_drewN Rf9 _)).below hb3);clear hb3)
      go_roundw
      case rel=>exact⟨k+1,by omega,by go_num,HW3⟩
      case measure=>simp [RowKit.intOf];omega
     go_wp2_with fail
     go_ret
     exact⟨rfl,HW.out.bel⟩
end Go.Proofs.YtdbniocnjhfhdaaGreatDoor
