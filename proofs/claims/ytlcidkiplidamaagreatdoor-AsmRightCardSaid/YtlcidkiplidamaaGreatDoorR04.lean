/-
  What the laws rest on, part 4: walks of the program's functions and plain laws. Conditions: none but those that each theorem names.
-/
import Derived.Test.YtlcidkiplidamaaGreatDoorR01
import Derived.Test.YtlcidkiplidamaaGreatDoorR03
import Derived.Lib.Split
import Derived.Lib.SplitLaws
import Derived.Test.YtlcidkiplidamaaGreatDoorR00
import Derived.Laws.BitsAllLaws
import Derived.Deep.QuietTactic
import Derived.BigQuiet
set_option linter.unusedSimpArgs false
set_option linter.unusedVariables false
namespace Go.Proofs.YtlcidkiplidamaaGreatDoor
open Go Go.RowKit Lib
def Ko.same (x k:Ko):Bool:=x.tag==k.tag&&x.num==k.num&&x.a==k.a&&x.b==k.b&&x.text.data.toList==k.text.data.toList
theorem Ko.same_iff {x k:Ko}:x.same k=true↔x=k:=by
 obtain⟨t,s,n,a,b⟩:=x
 obtain⟨t',s',n',a',b'⟩:=k
 unfold Ko.same
 simp only [Bool.and_eq_true,beq_iff_eq,Ko.mk.injEq]
 constructor
 ·rintro⟨⟨⟨⟨rfl,rfl⟩,rfl⟩,rfl⟩,h⟩
  refine⟨rfl, ?_,rfl,rfl,rfl⟩
  exact ByteArray.ext (Array.toList_inj.1 h)
 ·rintro⟨rfl,rfl,rfl,rfl,rfl⟩
  simp
def aNeed (pool:List Ko) (k:Ko):Nat×List Ko:=
 match pool.findIdx? (fun x=>x.same k) with
 |some i=> (i+1,pool)
 |none=> (pool.length+1,pool++ [k])
structure AsF where
 at':Nat
 fr:Nat
 lab:ByteArray
structure AsT where
 lo:ByteArray
 hi:ByteArray
 tg:ByteArray
 kind:Nat
structure AsM where
 mv:MethV
 line:Nat
 first:Bool
 labels:List (List UInt8×Nat)
 jumps:List AsF
 traps:List AsT
structure AsK where
 c:ClassV
 part:Nat
 line:Nat
 m:Option AsM
def AsK.need (σ:AsK) (k:Ko):Nat×AsK:=((aNeed σ.c.pool k).1,{ σ with c:={ σ.c with pool:=(aNeed σ.c.pool k).2 } })
def AsK.text (σ:AsK) (s:ByteArray):Nat×AsK:=σ.need ⟨1,s,0,0,0⟩
def AsK.cls (σ:AsK) (s:ByteArray):Nat×AsK:=(σ.text s).2.need ⟨7,⟨#[]⟩,0,(σ.text s).1,0⟩
def AsK.number (σ:AsK) (n:Int):Nat×AsK:=σ.need ⟨3,⟨#[]⟩,n,0,0⟩
def AsK.member (σ:AsK) (tag:Int) (c n d:ByteArray):Nat×AsK:=
 let a:=σ.cls c
 let x:=a.2.text n
 let y:=x.2.text d
 let z:=y.2.need ⟨12,⟨#[]⟩,0,x.1,y.1⟩
 z.2.need ⟨tag,⟨#[]⟩,0,a.1,z.1⟩
def flagTab:List (List UInt8×Nat):=
 [([112,117,98,108,105,99],0),([112,114,105,118,97,116,101],1),([112,114,111,116,101,99,116,101,100],2),([115,116,97,116,105,99],3),([102,105,110,97,108],4),([115,117,112,101,114],5),([110,97,116,105,118,101],8),([105,110,116,101,114,102,97,99,101],9),([97,98,115,116,114,97,99,116],10)]
def aFlag (w:List UInt8):Nat:=
 match flagTab.find? (fun r=>r.1==w) with
 |some r=>2^r.2
 |none=>0
def aFlags:List ByteArray→Nat→Option Nat
 | [],all=>some all
 |w::l,all=>if aFlag w.data.toList≠0∧all&&&aFlag w.data.toList=0 then aFlags l (all|||aFlag w.data.toList) else none
def digB (c:UInt8):Bool:=decide (48≤c.toNat)&&decide (c.toNat≤57)
def digN (l:List UInt8):Nat:=l.foldl (fun n c=>10*n+(c.toNat - 48)) 0
def aDigits (w:List UInt8) (lo hi:Int):Option Int:=
 let neg:=Lib.hasPrefix w [45]
 let s:=if neg then w.drop 1 else w
 if s= []∨11<w.length∨(s.headD 0=48∧w≠ [48]) then none
 else if s.all digB then
  let v:Int:=if neg then -(digN s:Int) else digN s
  if lo≤v∧v≤hi then some v else none
 else none
def blankB (c:UInt8):Bool:=c==32||c==9
def aWordsGo:List UInt8→List UInt8→List (List UInt8)
 | [],cur=>if cur= [] then [] else [cur]
 |c::l,cur=>if blankB c then(if cur= [] then aWordsGo l [] else cur::aWordsGo l []) else aWordsGo l (cur++ [c])
def aWords (s:ByteArray):List ByteArray:=(aWordsGo s.data.toList []).map fun l=> ⟨l.toArray⟩
def aLines (s:ByteArray):List ByteArray:=
 let l:=Lib.splitB ⟨#[10]⟩ 0 (Lib.countB s ⟨#[10]⟩) s
 if(l.getLastD ⟨#[]⟩).size=0 then l.dropLast else l
def objectS:ByteArray:=⟨#[106,97,118,97,47,108,97,110,103,47,79,98,106,101,99,116]⟩
def constantValueS:ByteArray:=⟨#[67,111,110,115,116,97,110,116,86,97,108,117,101]⟩
def codeS:ByteArray:=⟨#[67,111,100,101]⟩
def AsK.object (σ:AsK):AsK:=
 if σ.part=1 then
  let r:=σ.cls objectS
  { r.2 with c:={ r.2.c with sup:=r.1 },part:=2 }
 else σ
def AsK.field (σ:AsK) (w:List ByteArray):Option AsK:=
 let value:=decide (4<w.length)&&(w.getD (w.length - 2) ⟨#[]⟩).data.toList== [61]
 let n:=if value then w.length - 2 else w.length
 match aFlags ((w.take n).drop 3) 0 with
 |none=>none
 |some acc=>
  match(if value then aDigits (w.getD (n+1) ⟨#[]⟩).data.toList (-2147483648) 2147483647 else some 0) with
  |none=>none
  |some v=>
   let x:=σ.text (w.getD 1 ⟨#[]⟩)
   let y:=x.2.text (w.getD 2 ⟨#[]⟩)
   if value then
    let z:=y.2.number v
    let u:=z.2.text constantValueS
    some { u.2 with c:={ u.2.c with flds:=u.2.c.flds++ [⟨acc,x.1,y.1,z.1⟩] } }
   else some { y.2 with c:={ y.2.c with flds:=y.2.c.flds++ [⟨acc,x.1,y.1,0⟩] } }
def AsK.begin (σ:AsK) (w:List ByteArray):Option AsK:=
 match aFlags (w.drop 3) 0 with
 |none=>none
 |some acc=>
  let x:=σ.text (w.getD 1 ⟨#[]⟩)
  let y:=x.2.text (w.getD 2 ⟨#[]⟩)
  if acc&&&1024≠0 then some { y.2 with c:={ y.2.c with mths:=y.2.c.mths++ [⟨acc,x.1,y.1,false,0,0, [], []⟩] } }
  else
   let z:=y.2.text codeS
   some { z.2 with m:=some ⟨⟨acc,x.1,y.1,true,8,(kindsV (w.getD 2 ⟨#[]⟩)).1.size+4, [], []⟩,σ.line,true, [], [], []⟩ }
def isW (w:List ByteArray) (s:List UInt8):Bool:=(w.headD ⟨#[]⟩).data.toList==s
def AsK.outside (σ:AsK) (w:List ByteArray):Option AsK:=
 if σ.part=0 then
  if isW w [99,108,97,115,115]=true∧1<w.length then
   match aFlags (w.drop 2) 0 with
   |none=>none
   |some acc=>
    let r:=σ.cls (w.getD 1 ⟨#[]⟩)
    some { r.2 with c:={ r.2.c with acc:=acc,this:=r.1 },part:=1 }
  else none
 else if isW w [115,117,112,101,114]=true then
  if σ.part=1∧w.length=2 then
   let r:=σ.cls (w.getD 1 ⟨#[]⟩)
   some { r.2 with c:={ r.2.c with sup:=r.1 },part:=2 }
  else none
 else
  let σ:=σ.object
  if isW w [105,109,112,108,101,109,101,110,116,115]=true then
   if σ.part≤3∧w.length=2 then
    let r:=σ.cls (w.getD 1 ⟨#[]⟩)
    some { r.2 with c:={ r.2.c with ifs:=r.2.c.ifs++ [(r.1:Int)] },part:=3 }
   else none
  else if isW w [102,105,101,108,100]=true then
   if σ.part≤4∧2<w.length then{ σ with part:=4:AsK }.field w else none
  else if isW w [109,101,116,104,111,100]=true then
   if 2<w.length then{ σ with part:=5:AsK }.begin w else none
  else none
def aByte (n:Int):UInt8:=UInt8.ofNat (n%256).toNat
def aLook (l:List (List UInt8×Nat)) (s:ByteArray):Option Nat:=(l.find? fun r=>r.1==s.data.toList).map (·.2)
def aJumps (labels:List (List UInt8×Nat)):List AsF→List UInt8→Option (List UInt8)
 | [],code=>some code
 |j::l,code=>
  match aLook labels j.lab with
  |none=>none
  |some p=>
   let n:Int:=p - j.fr
   if -32768≤n∧n≤32767 then aJumps labels l ((code.set j.at' (aByte (n/256))).set (j.at'+1) (aByte n)) else none
def aTraps (labels:List (List UInt8×Nat)):List AsT→Option (List TrapV)
 | []=>some []
 |t::l=>
  match aLook labels t.lo,aLook labels t.hi,aLook labels t.tg with
  |some a,some b,some c=> (aTraps labels l).map (⟨a,b,c,t.kind⟩:: ·)
  |_,_,_=>none
def AsK.endM (σ:AsK) (m:AsM):Option AsK:=
 match aJumps m.labels m.jumps m.mv.code with
 |none=>none
 |some code=>
  match aTraps m.labels m.traps with
  |none=>none
  |some ts=>some { σ with m:=none,c:={ σ.c with mths:=σ.c.mths++ [{ m.mv with code:=code,traps:=ts }] } }
structure AsI where
 k:AsK
 code:List UInt8
 jumps:List AsF
 rest:List ByteArray
def aBe2 (n:Int):List UInt8:= [aByte (n/256),aByte n]
def aOper (name:List UInt8) (begin:Nat) (x:AsI) (c:UInt8):Option AsI:=
 let h:=x.rest.headD ⟨#[]⟩
 if c=98 then(aDigits h.data.toList (-128) 127).map fun v=> { x with code:=x.code++ [aByte v],rest:=x.rest.drop 1 }
 else if c=117 then
  if name≠ [108,100,99] then(aDigits h.data.toList 0 255).map fun v=> { x with code:=x.code++ [aByte v],rest:=x.rest.drop 1 }
  else
   match aDigits h.data.toList (-2147483648) 2147483647 with
   |none=>none
   |some v=>if(x.k.number v).1<256 then some { x with k:=(x.k.number v).2,code:=x.code++ [aByte (x.k.number v).1],rest:=x.rest.drop 1 } else none
 else if c=115 then(aDigits h.data.toList (-32768) 32767).map fun v=> { x with code:=x.code++aBe2 v,rest:=x.rest.drop 1 }
 else if c=106 then some { x with jumps:=x.jumps++ [⟨x.code.length,begin,h⟩],code:=x.code++ [0,0],rest:=x.rest.drop 1 }
 else if c=99 then some { x with k:=(x.k.cls h).2,code:=x.code++aBe2 (x.k.cls h).1,rest:=x.rest.drop 1 }
 else
  let tag:Int:=if c=102 then 9 else if c=109 then 10 else 11
  let r:=x.k.member tag h (x.rest.getD 1 ⟨#[]⟩) (x.rest.getD 2 ⟨#[]⟩)
  some { x with k:=r.2,code:=x.code++aBe2 r.1++(if c=105 then [aByte ((kindsV (x.rest.getD 2 ⟨#[]⟩)).1.size+1),0] else []),rest:=x.rest.drop 3 }
def aOpers (name:List UInt8) (begin:Nat):List UInt8→AsI→Option AsI
 | [],x=>some x
 |c::l,x=> (aOper name begin x c).bind (aOpers name begin l)
def aWant (form:List UInt8):Nat:=(form.map fun c=>if c=102∨c=109∨c=105 then 3 else 1).sum
def AsK.instr (σ:AsK) (m:AsM) (w:List ByteArray):Option AsK:=
 let code:=codeOf (w.headD ⟨#[]⟩).data.toList
 if code<0 then none
 else
  let r:=rowOf code
  if w.length - 1≠aWant r.2 then none
  else(aOpers r.1 m.mv.code.length r.2 ⟨σ,m.mv.code++ [aByte code],m.jumps,w.drop 1⟩).map fun x=>
   { x.k with m:=some { m with mv:={ m.mv with code:=x.code },jumps:=x.jumps } }
def AsK.inside (σ:AsK) (m:AsM) (w:List ByteArray):Except Nat AsK:=
 let h:=(w.headD ⟨#[]⟩).data.toList
 let wrong:Option AsK→Except Nat AsK:=fun o=>match o with|none=> .error σ.line|some x=> .ok x
 let m':={ m with first:=false }
 if m.first=true∧h= [108,105,109,105,116,115] then
  if w.length=3 then
   wrong ((aDigits (w.getD 1 ⟨#[]⟩).data.toList 0 255).bind fun a=> (aDigits (w.getD 2 ⟨#[]⟩).data.toList 0 255).map fun b=>
    { σ with m:=some { m' with mv:={ m.mv with stack:=a,locals:=b } } })
  else .error σ.line
 else if w.length=1∧h= [101,110,100] then
  match σ.endM m' with
  |none=> .error m.line
  |some x=> .ok x
 else if w.length=1∧h.getLastD 0=58 then
  let s:=h.dropLast
  if s≠ []∧s.length≤255∧(58:UInt8)∉s∧aLook m.labels ⟨s.toArray⟩=none then .ok { σ with m:=some { m' with labels:=m.labels++ [(s,m.mv.code.length)] } }
  else .error σ.line
 else if h= [116,114,97,112] then
  if w.length=4 then .ok { σ with m:=some { m' with traps:=m.traps++ [⟨w.getD 1 ⟨#[]⟩,w.getD 2 ⟨#[]⟩,w.getD 3 ⟨#[]⟩,0⟩] } }
  else if w.length=5 then
   let r:=σ.cls (w.getD 4 ⟨#[]⟩)
   .ok { r.2 with m:=some { m' with traps:=m.traps++ [⟨w.getD 1 ⟨#[]⟩,w.getD 2 ⟨#[]⟩,w.getD 3 ⟨#[]⟩,r.1⟩] } }
  else .error σ.line
 else wrong (σ.instr m' w)
def AsK.doLine (σ:AsK) (s:ByteArray):Except Nat AsK:=
 let w:=aWords s
 if w= []∨(w.headD ⟨#[]⟩).data.toList.headD 0=35 then .ok σ
 else match σ.m with
  |some m=>σ.inside m w
  |none=>match σ.outside w with
   |none=> .error σ.line
   |some x=> .ok x
def aRun:List ByteArray→Nat→AsK→Except Nat AsK
 | [],_,σ=> .ok σ
 |s::l,i,σ=>match{ σ with line:=i+1:AsK }.doLine s with
  | .error e=> .error e
  | .ok x=>aRun l (i+1) x
def AsK.new:AsK:=⟨⟨0,52, [],0,0,0, [], [], []⟩,0,0,none⟩
def aAsm (ck:ClassV→Int) (text:ByteArray):Except (Nat×Int) ClassV:=
 if 262144<text.size∨8000< (aLines text).length then .error (0,2)
 else match aRun (aLines text) 0 .new with
  | .error n=> .error (n,60)
  | .ok σ=>match σ.m with
   |some m=> .error (m.line,60)
   |none=>if σ.part=0 then .error (0,60)
    else
     let c:=σ.object.c
     if ck c≠0 then .error (0,ck c) else .ok c
def cutL:List UInt8→List (List UInt8)
 | []=> [[]]
 |c::l=>if c=10 then []::cutL l else match cutL l with
  | []=> [[c]]
  |h::t=> (c::h)::t
theorem cutL_ne (l:List UInt8):cutL l≠ []:=by
 cases l with
 |nil=>simp [cutL]
 |cons c l=>
  rw [cutL]
  split
  ·simp
  ·split<;>simp
theorem indexByte_cases (l:List UInt8) (c:UInt8):(indexByte l c= -1∧l.count c=0)∨ ∃i:Nat,indexByte l c=i∧0<l.count c∧i<l.length:=by
 induction l with
 |nil=>exact .inl ⟨rfl,rfl⟩
 |cons b l ih=>
  by_cases hb:b=c
  ·subst hb
   exact .inr ⟨0,by simp [indexByte],by simp,by simp⟩
  ·have hb2:(b==c)=false:=by simpa using hb
   rcases ih with⟨h1,h2⟩ | ⟨i,h1,h2,h3⟩
   ·exact .inl ⟨by simp [indexByte,hb2,h1],by rw [List.count_cons_of_ne (by simpa using hb)];exact h2⟩
   ·refine .inr ⟨i+1, ?_,by rw [List.count_cons_of_ne (by simpa using hb)];exact h2,by simp;omega⟩
    have: ¬((i:Int)== -1)=true:=by simp
    simp [indexByte,hb2,h1]
theorem splitK_cut: ∀l:List UInt8,splitK [10] 0 (l.count 10) l=cutL l
 | []=>rfl
 |c::l=>by
  have ih:=splitK_cut l
  by_cases hc:c=10
  ·subst hc
   rw [List.count_cons_self,splitK,cutL,if_pos rfl]
   have h0:index (10::l) [10]=0:=by rw [index_one];simp [indexByte]
   rw [h0,if_neg (by decide)]
   simpa using ih
  ·have hb2:(c==10)=false:=by simpa using hc
   rw [List.count_cons_of_ne (by simpa using hc),cutL,if_neg hc, ←ih]
   rcases indexByte_cases l 10 with⟨h1,h2⟩ | ⟨i,h1,h2,h3⟩
   ·rw [h2]
    rfl
   ·obtain⟨k,hk⟩: ∃k,l.count 10=k+1:=⟨l.count 10 - 1,by omega⟩
    rw [hk,splitK,splitK]
    have e1:index l [10]=i:=by rw [index_one];exact h1
    have e2:index (c::l) [10]=(i+1:Nat):=by
     rw [index_one]
     simp [indexByte,hb2,h1]
    rw [e1,e2,if_neg (by simp only [beq_iff_eq];omega),if_neg (by simp only [beq_iff_eq];omega)]
    simp only [Int.toNat_natCast,Nat.add_zero]
    rw [List.take_succ_cons]
    rfl
theorem split_cut (s:ByteArray):(Lib.splitB ⟨#[10]⟩ 0 (Lib.countB s ⟨#[10]⟩) s).map (fun x:ByteArray=>x.data.toList)=cutL s.data.toList:=by
 rw [splitB_data, ←splitK_cut]
 congr 1
 show Lib.count s.data.toList [10]=_
 exact count_one 10 _
def linesL (l:List UInt8):List (List UInt8):=if(cutL l).getLastD []= [] then(cutL l).dropLast else cutL l
theorem getLastD_map {α β:Type} (f:α→β) (d:α) (l:List α):(l.map f).getLastD (f d)=f (l.getLastD d):=by
 rw [List.getLastD_eq_getLast?,List.getLastD_eq_getLast?,List.getLast?_map]
 cases l.getLast?<;>rfl
theorem lines_list (s:ByteArray):(aLines s).map (fun x:ByteArray=>x.data.toList)=linesL s.data.toList:=by
 unfold aLines linesL
 have h:=split_cut s
 have hd:=getLastD_map (fun x:ByteArray=>x.data.toList) ⟨#[]⟩ (Lib.splitB ⟨#[10]⟩ 0 (Lib.countB s ⟨#[10]⟩) s)
 rw [h] at hd
 simp only [Array.toList] at hd
 have e: ∀x:ByteArray,x.size=0↔x.data.toList= []:=fun x=>by
  constructor
  ·intro hx
   have:x.data.toList.length=0:=by rw [Array.length_toList];exact hx
   exact List.length_eq_zero_iff.1 this
  ·intro hx
   have:x.data.toList.length=0:=by rw [hx];rfl
   rw [Array.length_toList] at this
   exact this
 by_cases h0:((Lib.splitB ⟨#[10]⟩ 0 (Lib.countB s ⟨#[10]⟩) s).getLastD ⟨#[]⟩).size=0
 ·have h1:=(e _).1 h0
  rw [if_pos h0,if_pos (hd.trans h1),List.map_dropLast,h]
 ·rw [if_neg h0,if_neg (fun hx=>h0 ((e _).2 (hd.symm.trans hx))),h]
def Mute (s:ByteArray):Prop:=aWords s= []∨((aWords s).headD ⟨#[]⟩).data.toList.headD 0=35
theorem mute_line {s:ByteArray} (h:Mute s) (σ:AsK):σ.doLine s= .ok σ:=by
 unfold AsK.doLine
 exact if_pos h
end Go.Proofs.YtlcidkiplidamaaGreatDoor
namespace Go.Proofs.YtlcidkiplidamaaGreatDoor
open Go Go.RowKit
theorem i64_or_nat (a b:Nat) (ha:a<9223372036854775808) (hb:b<9223372036854775808):bits .or .i64 (a:Int) (b:Int)=((a|||b:Nat):Int):=by
 have hx:a|||b<2^63:=Nat.or_lt_two_pow (by omega) (by omega)
 show IntKind.i64.wrap ((BitVec.ofInt 64 (a:Int) |||BitVec.ofInt 64 (b:Int)).toNat:Int)=_
 rw [BitVec.toNat_or,ofInt_u64 a (by omega),ofInt_u64 b (by omega),IntKind.wrap_i64]
 omega
theorem i64_and_nat (a b:Nat) (ha:a<9223372036854775808) (hb:b<9223372036854775808):bits .and .i64 (a:Int) (b:Int)=((a&&&b:Nat):Int):=by
 have hx:a&&&b<2^63:=Nat.and_lt_two_pow _ (by omega)
 show IntKind.i64.wrap ((BitVec.ofInt 64 (a:Int)&&&BitVec.ofInt 64 (b:Int)).toNat:Int)=_
 rw [BitVec.toNat_and,ofInt_u64 a (by omega),ofInt_u64 b (by omega),IntKind.wrap_i64]
 omega
theorem or_byte (v x:Nat) (hx:x<256) (hv:v<16777216):bits .or .i64 (((v*256:Nat):Int)) (x:Int)=((v*256+x:Nat):Int):=by
 rw [i64_or_nat _ _ (by omega) (by omega)]
 congr 1
 rw [show v*256=v<<<8 by rw [Nat.shiftLeft_eq], ←Nat.shiftLeft_add_eq_or_of_lt (by omega)]
end Go.Proofs.YtlcidkiplidamaaGreatDoor
set_option maxRecDepth 100000
set_option maxHeartbeats 1000000
namespace Go.Proofs.YtlcidkiplidamaaGreatDoor
open Go Go.RowKit Lib
structure RdrAt (w:World) (r:Nat) (A:Option Addr) (cap:Nat) (l:List UInt8) (st:Rs):Prop where
 c0:w.cell? ⟨r,0,none⟩=some (.slice A l.length cap)
 c1:w.cell? ⟨r,1,none⟩=some (.int .i64 st.pos)
 c2:w.cell? ⟨r,2,none⟩=some (.int .i64 st.most)
 c3:w.cell? ⟨r,3,none⟩=some (.int .i64 st.named)
 fz: ∀o,w.frozen? ⟨r,o,none⟩=false
 rd:RdB w A l.length cap l
 ne: ∀a,A=some a→a.block≠r
 lt:r<w.heap.size
 len:l.length≤65536
 pos:st.pos≤l.length
 pm:st.pos≤st.most
 most:st.most≤4611686018427387904
structure RB (r:Nat) (w w':World):Prop where
 but:But w.heap.size [r] w w'
 c4:w'.cell? ⟨r,4,none⟩=w.cell? ⟨r,4,none⟩
theorem RB.refl (r:Nat) (w:World):RB r w w:=⟨But.refl _ _ _,rfl⟩
theorem RB.of_below {r:Nat} {w w':World} (hr:r<w.heap.size) (h:Below w.heap.size w w'):RB r w w':=⟨But.of_below h,h.cell (p:=⟨r,4,none⟩) hr⟩
def stopV (a e:Nat):Value:= .iface 117 (.agg #[.int .i64 a, .int .i64 e])
def RPost {α:Type} (w:World) (r:Nat) (A:Option Addr) (cap:Nat) (l:List UInt8) (p:Rx α) (rep:α→Value→World→Prop) (e:Ending) (w':World):Prop:=
 RB r w w'∧match p with
  | .ok (x,st')=> ∃v,e= .returned v∧rep x v w'∧RdrAt w' r A cap l st'
  | .error (a,er)=>e= .panicked [{ v:=stopV a er,recovered:=false }]
theorem RdB.but {w w':World} {A:Option Addr} {len cap:Nat} {l:List UInt8} {S:List Nat} (h:RdB w A len cap l) (hb:But w.heap.size S w w') (hs: ∀a,A=some a→a.block∉S):RdB w' A len cap l:=
 ⟨h.hlen,h.hle,h.hmax,fun h0=>by
  obtain⟨b,off,rfl,hlt,hc⟩:=h.hat h0
  have hs':b∉S:=hs _ rfl
  exact⟨b,off,rfl,Nat.lt_of_lt_of_le hlt hb.size,fun i hi=> (hb.cell (p:=⟨b,off+i,none⟩) hlt hs').trans (hc i hi)⟩⟩
theorem RdrAt.keep {w w':World} {r:Nat} {A:Option Addr} {cap:Nat} {l:List UInt8} {st:Rs} (h:RdrAt w r A cap l st) (hb:Below w.heap.size w w'):RdrAt w' r A cap l st where
 c0:=(hb.cell (p:=⟨r,0,none⟩) h.lt).trans h.c0
 c1:=(hb.cell (p:=⟨r,1,none⟩) h.lt).trans h.c1
 c2:=(hb.cell (p:=⟨r,2,none⟩) h.lt).trans h.c2
 c3:=(hb.cell (p:=⟨r,3,none⟩) h.lt).trans h.c3
 fz:=fun o=> (hb.frozen (p:=⟨r,o,none⟩) h.lt).trans (h.fz o)
 rd:=h.rd.below hb
 ne:=h.ne
 lt:=Nat.lt_of_lt_of_le h.lt hb.size
 len:=h.len
 pos:=h.pos
 pm:=h.pm
 most:=h.most
theorem rpost_error {α:Type} {w w':World} {r:Nat} {A:Option Addr} {cap:Nat} {l:List UInt8} {p:Rx α} {rep:α→Value→World→Prop} {a er:Nat} (hp:p= .error (a,er)) (hb:RB r w w'):RPost w r A cap l p rep (.panicked [{ v:=stopV a er,recovered:=false }]) w':=by
 subst hp
 exact⟨hb,rfl⟩
theorem rpost_ok {α:Type} {w w':World} {r:Nat} {A:Option Addr} {cap:Nat} {l:List UInt8} {p:Rx α} {rep:α→Value→World→Prop} {x:α} {st':Rs} {v:Value} (hp:p= .ok (x,st')) (hb:RB r w w') (hr:rep x v w') (hs:RdrAt w' r A cap l st'):RPost w r A cap l p rep (.returned v) w':=by
 subst hp
 exact⟨hb,v,rfl,hr,hs⟩
theorem But.set {B:Nat} {S:List Nat} {a w:World} (h:But B S a w) (p:Addr) (hp:p.block∈S∨B≤p.block) (v:Value):But B S a (w.setCell p v):=by
 have hb:Below p.block w (w.setCell p v):=(Below.refl _ _).setCell (Nat.le_refl _) v
 refine h.trans ⟨hb.os,hb.tape,hb.output,hb.size,fun k hk hs=>Below.heap_setCell w p v k (fun e=> ?_)⟩
 subst e
 rcases hp with hp|hp
 ·exact hs hp
 ·omega
theorem RB.moved {r:Nat} {a w:World} (h:RB r a w) (v:Value):RB r a (w.setCell ⟨r,1,none⟩ v):=⟨h.but.set ⟨r,1,none⟩ (.inl (by simp)) v,(World.cell?_setCell_other _ _ _ _ (by simp)).trans h.c4⟩
theorem rdr_moved {w:World} {r:Nat} {A:Option Addr} {cap:Nat} {l:List UInt8} {st:Rs} (h:RdrAt w r A cap l st) (n:Nat) (h1:st.pos+n≤l.length) (h2:st.pos+n≤st.most):
  RdrAt (w.setCell ⟨r,1,none⟩ (.int .i64 ((st.pos:Int)+n))) r A cap l { st with pos:=st.pos+n } where
 c0:=(World.cell?_setCell_other _ _ _ _ (by simp)).trans h.c0
 c1:=by
  have:=h.c1
  have e:(Value.int .i64 ((st.pos:Int)+n))= .int .i64 ((st.pos+n:Nat):Int):=by rw [Int.natCast_add]
  rw [e]
  exact World.cell?_setCell_same _ _ _ h.c1
 c2:=(World.cell?_setCell_other _ _ _ _ (by simp)).trans h.c2
 c3:=(World.cell?_setCell_other _ _ _ _ (by simp)).trans h.c3
 fz:=fun o=>by simp [go_sem,h.fz o]
 rd:=h.rd.but ((But.refl w.heap.size [r] w).set ⟨r,1,none⟩ (.inl (by simp)) _) (fun a ha=>by simpa using h.ne a ha)
 ne:=h.ne
 lt:=by simpa using h.lt
 len:=h.len
 pos:=h1
 pm:=h2
 most:=h.most
theorem RdB.shut {w:World} {A:Option Addr} {len cap:Nat} {l:List UInt8} (h:RdB w A len cap l): ∀c,len≤c→RdB w A len c l:=fun c hc=> ⟨h.hlen,hc,h.hmax,h.hat⟩
theorem wrong_any (r:Value) (a e:Nat) (w:World):Calls Tryz.prog 115 #[r, .int .i64 a, .int .i64 e] w fun en w'=>en= .panicked [{ v:=stopV a e,recovered:=false }]∧w=w':=by
 go_enter Tryz.func115,Tryz.ntmps115
 go_wp2
 exact⟨rfl,rfl,rfl⟩
theorem bytes_all (r:Nat) (A:Option Addr) (cap n:Nat) (l:List UInt8) (st:Rs) (w:World) (h:RdrAt w r A cap l st) (hn:n≤4294967296):
  Calls Tryz.prog 158 #[.pointer (some ⟨r,0,none⟩), .int .i64 n] w (RPost w r A cap l (bytesP l n st) fun x v w'=> (∃A' cap',v= .slice A' x.length cap'∧RdB w' A' x.length cap' x)∧w'.heap.size=w.heap.size):=by
 have H:=Lib.hid h
 have c0:=h.c0
 have c1:=h.c1
 have c2:=h.c2
 have c3:=h.c3
 have p0:=h.pos
 have p1:=h.pm
 have p2:=h.most
 have p3:=h.len
 have fz:=h.fz 1
 have hle:=h.rd.hle
 clear h
 by_cases h1:l.length<st.pos+n
 ·have HP:=Lib.hid (show bytesP l n st= .error (st.pos,10) by simp [bytesP,h1])
  go_enter Tryz.func158,Tryz.ntmps158
  go_wp2
  go_quiet (fail)
  go_wp2_with (go_at_call 115;refine(wrong_any _ _ _ _).mono ?_;rintro e w1 ⟨rfl,rfl⟩)
  exact⟨rfl,rpost_error HP.out (RB.of_below H.out.lt (below_drewN (Below.refl _ _) _))⟩
 ·by_cases h2:st.most<st.pos+n
  ·have HP:=Lib.hid (show bytesP l n st= .error (st.named,25) by simp [bytesP,h1,h2])
   go_enter Tryz.func158,Tryz.ntmps158
   go_wp2
   go_quiet (fail)
   go_wp2
   go_quiet (fail)
   go_wp2_with (go_at_call 115;refine(wrong_any _ _ _ _).mono ?_;rintro e w1 ⟨rfl,rfl⟩)
   exact⟨rfl,rpost_error HP.out (RB.of_below H.out.lt (below_drewN (Below.refl _ _) _))⟩
  ·have HP:=Lib.hid (show bytesP l n st= .ok ((l.drop st.pos).take n,{ st with pos:=st.pos+n }) by simp [bytesP,h1,h2])
   have HW:=fun k=>rdr_moved (H.out.keep (below_drewN (Below.refl _ _) k)) n (by omega) (by omega)
   have HW':=Lib.hid HW
   have HB:=Lib.hid fun k=> (RB.moved (RB.of_below H.out.lt (below_drewN (Below.refl w.heap.size w) k)) (.int .i64 ((st.pos:Int)+n)))
   clear HW
   rcases Nat.eq_zero_or_pos n with h0|h0
   ·subst h0
    have HR:=Lib.hid (fun(W:World) (A':Option Addr) (c:Nat)=> (⟨rfl,Nat.zero_le _,by omega,fun h=>absurd h (by omega)⟩:RdB W A' 0 c []))
    go_enter Tryz.func158,Tryz.ntmps158
    go_wp2
    go_quiet (fail)
    go_wp2
    go_quiet (fail)
    go_wp2
    go_quiet (fail)
    all_goals go_wp2_with fail
    all_goals go_ret
    all_goals exact rpost_ok HP.out (HB.out _) ⟨⟨_,_,rfl,HR.out _ _ _⟩,by simp⟩ (HW'.out _)
   ·obtain⟨b,off,rfl,hlt,hc⟩:=H.out.rd.hat (by omega)
    have hlen:((l.drop st.pos).take n).length=n:=by simp;omega
    have HL:=Lib.hid hlen
    have hbr:b≠r:=H.out.ne _ rfl
    have HR:=Lib.hid (fun(k:Nat)=> (((H.out.rd.part st.pos n (by omega) h0).but (HB.out k).but (fun a ha=>by
     injection ha with ha
     subst ha
     simpa using hbr)).shut))
    clear hlen hc
    go_enter Tryz.func158,Tryz.ntmps158
    go_wp2
    go_quiet (fail)
    go_wp2
    go_quiet (fail)
    go_wp2
    go_quiet (fail)
    all_goals go_wp2_with fail
    all_goals go_ret
    all_goals refine rpost_ok HP.out (HB.out _) ?_ (HW'.out _)
    all_goals rw [HL.out]
    all_goals refine⟨⟨some ⟨b,off+st.pos,none⟩,n, ?_,HR.out _ n (Nat.le_refl _)⟩,by simp⟩
    all_goals show Value.slice (some ⟨b,off+st.pos,none⟩) (st.pos+n - st.pos) (st.pos+n - st.pos)=_
    all_goals rw [Nat.add_sub_cancel_left]
theorem RPost.weaken {α:Type} {w:World} {r:Nat} {A:Option Addr} {cap:Nat} {l:List UInt8} {p:Rx α} {rep rep':α→Value→World→Prop} {e:Ending} {w':World} (h:RPost w r A cap l p rep e w') (hr: ∀x v,rep x v w'→rep' x v w'):RPost w r A cap l p rep' e w':=by
 rcases p with⟨a,er⟩ | ⟨x,st'⟩
 ·exact h
 ·obtain⟨hb,v,h1,h2,h3⟩:=h
  exact⟨hb,v,h1,hr _ _ h2,h3⟩
theorem bytes_any (r:Nat) (A:Option Addr) (cap n:Nat) (l:List UInt8) (st:Rs) (w:World) (h:RdrAt w r A cap l st) (hn:n≤4294967296):
  Calls Tryz.prog 158 #[.pointer (some ⟨r,0,none⟩), .int .i64 n] w (RPost w r A cap l (bytesP l n st) fun x v w'=> ∃A' cap',v= .slice A' x.length cap'∧RdB w' A' x.length cap' x):=
 (bytes_all r A cap n l st w h hn).mono fun _ _ h=>h.weaken fun _ _ h=>h.1
theorem beN_snoc (l:List UInt8) (k:Nat) (h:k<l.length):beN (l.take (k+1))=beN (l.take k)*256+byt l k:=by
 unfold beN
 rw [List.take_add_one,List.getElem?_eq_getElem h,Option.toList_some,List.foldl_append]
 simp [byt,List.getD,List.getElem?_eq_getElem h]
theorem beN_lt (l:List UInt8): ∀k,k≤l.length→beN (l.take k) <256^k:=by
 intro k
 induction k with
 |zero=>intro _;simp [beN]
 |succ k ih=>
  intro hk
  have h1:=ih (by omega)
  have h2:=byt_lt l k
  rw [beN_snoc l k hk,Nat.pow_succ]
  omega
theorem beN_lt4 (l:List UInt8) (k:Nat) (h:k≤l.length) (h4:k<4):beN (l.take k) <16777216:=by
 have h1:=beN_lt l k h
 have h2:256^k≤256^3:=Nat.pow_le_pow_right (by omega) (by omega)
 omega
theorem number_all (r:Nat) (A:Option Addr) (cap n:Nat) (l:List UInt8) (st:Rs) (w:World) (h:RdrAt w r A cap l st) (hn:n≤4):
  Calls Tryz.prog 114 #[.pointer (some ⟨r,0,none⟩), .int .i64 n] w (RPost w r A cap l (numP l n st) fun x v w'=> (v= .int .i64 x∧x<4294967296)∧w'.heap.size=w.heap.size):=by
 have H:=Lib.hid h
 clear h
 rcases hb:bytesP l n st with⟨a,er⟩ | ⟨x,st'⟩
 ·have HP:=Lib.hid (show numP l n st= .error (a,er) by rw [numP,hb];rfl)
  have HB:=Lib.hid hb
  clear hb
  go_enter Tryz.func114,Tryz.ntmps114
  go_wp2_with (go_at_call 158;refine(bytes_any r A cap n l st _ H.out (by omega)).mono ?_;intro e w1 hq;rw [HB.out] at hq;obtain⟨hb1,rfl⟩:=hq)
  exact⟨rfl,rpost_error HP.out hb1⟩
 ·have HP:=Lib.hid (show numP l n st= .ok (beN x,st') by rw [numP,hb];rfl)
  have hx:x.length≤4:=by
   have:=hb
   unfold bytesP at this
   split at this
   ·cases this
   ·split at this
    ·cases this
    ·injection this with this
     injection this with this _
     subst this
     simp
     omega
  have HB:=Lib.hid hb
  clear hb
  go_enter Tryz.func114,Tryz.ntmps114
  go_wp2_with (go_at_call 158;refine(bytes_all r A cap n l st _ H.out (by omega)).mono ?_;intro e w1 hq;rw [HB.out] at hq;obtain⟨hb1,v,rfl,⟨⟨A',cap',rfl,hr⟩,hsz⟩,hs⟩:=hq;refine stop_here ?_)
  have HZ:=Lib.hid hsz
  clear hsz
  have HR:=Lib.hid hr
  have HS:=Lib.hid hs
  have HW:=Lib.hid hb1
  clear hr hs hb1
  refine go_on ?_
  go_wp2_with fail
  go_loop [5,7,12] (fun v _ i=> ∃k:Nat,k≤x.length∧i= .int .i64 k∧v= .int .i64 (beN (x.take k))) (fun _ _ i=>x.length - (RowKit.intOf i).toNat)
  case atStart=>exact⟨0,by omega,rfl,rfl⟩
  case round=>
   obtain⟨k,hk,rfl,rfl⟩:=hrel
   by_cases hlt:k<x.length
   ·obtain⟨b,off,rfl,hbl,hc⟩:=HR.out.hat (by omega)
    have ck:=hc k hlt
    have hb:=byt_lt x k
    have h4:=beN_lt4 x k hk (by omega)
    have HN:=Lib.hid (beN_snoc x k hlt)
    have HO:=Lib.hid (or_byte (beN (x.take k)) (byt x k) hb h4)
    clear hc
    generalize beN (x.take k)=V at*
    generalize byt x k=X at*
    go_wp2_with fail
    go_round
    case rel=>exact⟨k+1,by omega,by go_num,by rw [HN.out, ←HO.out,Int.natCast_mul];first|rfl|simp⟩
    case measure=>simp [RowKit.intOf];omega
   ·have hkk:k=x.length:=by omega
    have ht:x.take k=x:=List.take_of_length_le (by omega)
    have h5:=beN_lt x k hk
    have h6:256^k≤256^4:=Nat.pow_le_pow_right (by omega) (by omega)
    rw [ht] at h5⊢
    have h7:beN x<4294967296:=by omega
    clear ht h5 h6
    go_wp2_with fail
    go_ret
    exact rpost_ok HP.out HW.out ⟨⟨rfl,h7⟩,HZ.out⟩ HS.out
theorem number_any (r:Nat) (A:Option Addr) (cap n:Nat) (l:List UInt8) (st:Rs) (w:World) (h:RdrAt w r A cap l st) (hn:n≤4):
  Calls Tryz.prog 114 #[.pointer (some ⟨r,0,none⟩), .int .i64 n] w (RPost w r A cap l (numP l n st) fun x v w'=>v= .int .i64 x∧x<4294967296):=
 (number_all r A cap n l st w h hn).mono fun _ _ h=>h.weaken fun _ _ h=>h.1
theorem rx_cases {α:Type} (p:Rx α):(∃a er,p= .error (a,er))∨ ∃x st,p= .ok (x,st):=by
 rcases p with⟨a,er⟩ | ⟨x,st⟩
 ·exact .inl ⟨a,er,rfl⟩
 ·exact .inr ⟨x,st,rfl⟩
theorem RPost.err {α:Type} {w:World} {r:Nat} {A:Option Addr} {cap:Nat} {l:List UInt8} {p:Rx α} {rep:α→Value→World→Prop} {e:Ending} {w':World} {a er:Nat} (h:RPost w r A cap l p rep e w') (hp:p= .error (a,er)):
  RB r w w'∧e= .panicked [{ v:=stopV a er,recovered:=false }]:=by
 subst hp
 exact h
theorem RPost.val {α:Type} {w:World} {r:Nat} {A:Option Addr} {cap:Nat} {l:List UInt8} {p:Rx α} {rep:α→Value→World→Prop} {e:Ending} {w':World} {x:α} {st':Rs} (h:RPost w r A cap l p rep e w') (hp:p= .ok (x,st')):
  RB r w w'∧ ∃v,e= .returned v∧rep x v w'∧RdrAt w' r A cap l st':=by
 subst hp
 exact h
def Bx (w:World) (g:Nat) (vs:List Value) (t:TypeId):Prop:=w.heap[g]?=some (.cells vs.toArray t (0,0))
theorem bx_new (w:World) (vs:List Value) (t:TypeId):Bx (w.alloc (.cells vs.toArray t)) w.heap.size vs t:=heap_alloc_new w _
theorem Bx.cell {w:World} {g:Nat} {vs:List Value} {t:TypeId} (h:Bx w g vs t) (j:Nat) {u:Value} (hj:vs[j]?=some u):w.cell? ⟨g,j,none⟩=some u:=by
 unfold World.cell?
 rw [h]
 simpa using hj
theorem Bx.frozen {w:World} {g:Nat} {vs:List Value} {t:TypeId} (h:Bx w g vs t) (j:Nat):w.frozen? ⟨g,j,none⟩=false:=by
 unfold World.frozen?
 rw [h]
 simp
theorem Bx.lt {w:World} {g:Nat} {vs:List Value} {t:TypeId} (h:Bx w g vs t):g<w.heap.size:=(Array.getElem?_eq_some_iff.1 h).1
theorem Bx.but {w w':World} {g:Nat} {vs:List Value} {t:TypeId} (h:Bx w g vs t) {S:List Nat} (hb:But w.heap.size S w w') (hs:g∉S):Bx w' g vs t:=(hb.block g h.lt hs).trans h
theorem Bx.below {w w':World} {g:Nat} {vs:List Value} {t:TypeId} (h:Bx w g vs t) {B:Nat} (hb:Below B w w') (hg:g<B):Bx w' g vs t:=(hb.block g hg).trans h
theorem RdB.low {w w':World} {A:Option Addr} {len cap B:Nat} {l:List UInt8} (h:RdB w A len cap l) (hb:Below B w w') (hs: ∀a,A=some a→0<len→a.block<B):RdB w' A len cap l:=
 ⟨h.hlen,h.hle,h.hmax,fun h0=>by
  obtain⟨b,off,rfl,hlt,hc⟩:=h.hat h0
  have hs':b<B:=hs _ rfl h0
  exact⟨b,off,rfl,Nat.lt_of_lt_of_le hlt hb.size,fun i hi=> (hb.cell (p:=⟨b,off+i,none⟩) hs').trans (hc i hi)⟩⟩
theorem RdrAt.keepB {w0 w w':World} {r:Nat} {A:Option Addr} {cap:Nat} {l:List UInt8} {st0 st:Rs} (h0:RdrAt w0 r A cap l st0) (h:RdrAt w r A cap l st) (hb:Below w0.heap.size w w'):RdrAt w' r A cap l st where
 c0:=(hb.cell (p:=⟨r,0,none⟩) h0.lt).trans h.c0
 c1:=(hb.cell (p:=⟨r,1,none⟩) h0.lt).trans h.c1
 c2:=(hb.cell (p:=⟨r,2,none⟩) h0.lt).trans h.c2
 c3:=(hb.cell (p:=⟨r,3,none⟩) h0.lt).trans h.c3
 fz:=fun o=> (hb.frozen (p:=⟨r,o,none⟩) h0.lt).trans (h.fz o)
 rd:=h.rd.low hb (fun a ha hl=>by
  obtain⟨b,off,e,hlt,_⟩:=h0.rd.hat hl
  rw [ha] at e
  injection e with e
  subst e
  exact hlt)
 ne:=h.ne
 lt:=Nat.lt_of_lt_of_le h.lt hb.size
 len:=h.len
 pos:=h.pos
 pm:=h.pm
 most:=h.most
theorem But.below_trans {B:Nat} {S:List Nat} {a w w':World} (h:But B S a w) (hb:Below B w w'):But B S a w':=h.trans (But.of_below hb)
theorem RPost.cases {α:Type} {w:World} {r:Nat} {A:Option Addr} {cap:Nat} {l:List UInt8} {p:Rx α} {rep:α→Value→World→Prop} {e:Ending} {w':World} (h:RPost w r A cap l p rep e w'):
  (∃a er,p= .error (a,er)∧RB r w w'∧e= .panicked [{ v:=stopV a er,recovered:=false }])∨ ∃x st' v,p= .ok (x,st')∧RB r w w'∧e= .returned v∧rep x v w'∧RdrAt w' r A cap l st':=by
 rcases p with⟨a,er⟩ | ⟨x,st'⟩
 ·exact .inl ⟨a,er,rfl,h.1,h.2⟩
 ·obtain⟨hb,v,h1,h2,h3⟩:=h
  exact .inr ⟨x,st',v,rfl,hb,h1,h2,h3⟩
theorem bind_stop {α β:Type} {p:Rx α} {f:α→Rs→Rx β} {e:Nat×Nat} (h:p= .error e):Rx.bind p f= .error e:=by rw [h];rfl
theorem bind_step {α β:Type} {p:Rx α} {f:α→Rs→Rx β} {x:α} {s:Rs} (h:p= .ok (x,s)):Rx.bind p f=f x s:=by rw [h];rfl
theorem ha_step {w wp W wk:World} {r:Nat} (h:RB r w wp) (hr:r<w.heap.size) (hl:Below w.heap.size wp W) (hb:RB r W wk):RB r w wk:=
 ⟨(h.but.below_trans hl).trans (hb.but.mono (Nat.le_trans h.but.size hl.size) (fun _ _ h=>h)),hb.c4.trans ((hl.cell (p:=⟨r,4,none⟩) hr).trans h.c4)⟩
theorem ha_low {w wp W:World} {r:Nat} (h:RB r w wp) (hr:r<w.heap.size) (hl:Below w.heap.size wp W):RB r w W:=⟨h.but.below_trans hl,(hl.cell (p:=⟨r,4,none⟩) hr).trans h.c4⟩
theorem ne_one {g r:Nat} (h:g≠r):g∉ [r]:=by simpa using h
theorem bx_new_at (w:World) (vs:List Value) (t:TypeId) (g:Nat) (hg:g=w.heap.size):Bx (w.alloc (.cells vs.toArray t)) g vs t:=by
 subst hg
 exact bx_new w vs t
theorem Bx.set {w:World} {g:Nat} {vs:List Value} {t:TypeId} (h:Bx w g vs t) (j:Nat) (u:Value):Bx (w.setCell ⟨g,j,none⟩ u) g (vs.set j u) t:=by
 unfold Bx at*
 simp [World.setCell,Array.getElem?_modify,h]
theorem Bx.set_other {w:World} {g:Nat} {vs:List Value} {t:TypeId} (h:Bx w g vs t) (p:Addr) (u:Value) (hne:p.block≠g):Bx (w.setCell p u) g vs t:=by
 have:=Below.heap_setCell w p u g (by omega)
 exact this.trans h
theorem count_any (r:Nat) (A:Option Addr) (cap m:Nat) (l:List UInt8) (st:Rs) (w:World) (h:RdrAt w r A cap l st) (hm:m≤65536):
  Calls Tryz.prog 116 #[.pointer (some ⟨r,0,none⟩), .int .i64 m] w (RPost w r A cap l (countP l m st) fun x v w'=>v= .int .i64 x∧x≤m):=by
 have H:=Lib.hid h
 have c1:=h.c1
 clear h
 rcases rx_cases (numP l 2 st) with⟨a,er,hb⟩ | ⟨n,st',hb⟩
 ·have HP:=Lib.hid (show countP l m st= .error (a,er) by rw [countP,hb];rfl)
  have HB:=Lib.hid hb
  clear hb
  go_enter Tryz.func116,Tryz.ntmps116
  go_wp2_with (go_at_call 114;refine(number_any r A cap 2 l st _ H.out (by omega)).mono ?_;intro e w1 hq;obtain⟨hb1,rfl⟩:=hq.err HB.out)
  exact⟨rfl,rpost_error HP.out hb1⟩
 ·by_cases hmn:m<n
  ·have HP:=Lib.hid (show countP l m st= .error (st.pos,2) by rw [countP,hb,Rx.bind_ok,if_pos hmn])
   have HB:=Lib.hid hb
   clear hb
   go_enter Tryz.func116,Tryz.ntmps116
   go_wp2_with (first| (go_at_call 114;refine(number_any r A cap 2 l st _ H.out (by omega)).mono ?_;intro e w1 hq;obtain⟨hb1,v,rfl,⟨rfl,hn⟩,hs⟩:=hq.val HB.out) | (go_at_call 115;refine(wrong_any _ _ _ _).mono ?_;rintro e w1 ⟨rfl,rfl⟩))
   exact⟨rfl,rpost_error HP.out hb1⟩
  ·have HP:=Lib.hid (show countP l m st= .ok (n,st') by rw [countP,hb,Rx.bind_ok,if_neg hmn])
   have HB:=Lib.hid hb
   have hle:n≤m:=by omega
   clear hb
   go_enter Tryz.func116,Tryz.ntmps116
   go_wp2_with (go_at_call 114;refine(number_any r A cap 2 l st _ H.out (by omega)).mono ?_;intro e w1 hq;obtain⟨hb1,v,rfl,⟨rfl,hn⟩,hs⟩:=hq.val HB.out)
   go_ret
   exact rpost_ok HP.out hb1 ⟨rfl,hle⟩ hs
def koV (k:Ko):Value:= .agg #[.int .i64 k.tag, .string k.text, .int .i64 k.num, .int .i64 k.a, .int .i64 k.b]
end Go.Proofs.YtlcidkiplidamaaGreatDoor
