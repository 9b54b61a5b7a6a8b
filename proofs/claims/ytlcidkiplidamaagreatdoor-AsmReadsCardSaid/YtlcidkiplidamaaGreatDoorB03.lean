/-
  What the laws rest on, part 3: walks of the program's functions and plain laws. Conditions: none but those that each theorem names.
-/
import Derived.Test.YtlcidkiplidamaaGreatDoorB00
import Derived.Test.YtlcidkiplidamaaGreatDoorB02
import Derived.Lib.Split
import Derived.Lib.SplitLaws
import Derived.Laws.BitsAllLaws
import Derived.Deep.QuietTactic
import Derived.BigQuiet
import Derived.Deep.AppendLies
import Derived.Deep.RegionLaw
import Derived.Laws.Rows
import Derived.Laws.CopyOwn
import Derived.Laws.Tables
set_option linter.unusedSimpArgs false
set_option linter.unusedVariables false
namespace Go.Proofs.YtlcidkiplidamaaGreatDoor
open Go Go.RowKit Lib
def Ko.same (x k:Ko):Bool:=x.tag==k.tag&&x.num==k.num&&x.a==k.a&&x.b==k.b&&x.text.data.toList==k.text.data.toList
theorem Ko.same_iff {x k:Ko}:x.same k=true↔x=k:=by
 obtain⟨t,s,n,a,b⟩:=x
 obtain⟨t',s',n',a',b'⟩:=k
 unfold Ko.same
 simp only [Bool.and_eq_true,beq_iff_eq,Ko.mk.injEq]
 constructor
 ·rintro⟨⟨⟨⟨rfl,rfl⟩,rfl⟩,rfl⟩,h⟩
  refine⟨rfl, ?_,rfl,rfl,rfl⟩
  exact ByteArray.ext (Array.toList_inj.1 h)
 rintro⟨rfl,rfl,rfl,rfl,rfl⟩
 simp
def dqz (pool:List Ko) (k:Ko):Nat×List Ko:=
 match pool.findIdx? (fun x=>x.same k) with
 |some i=> (i+1,pool)
 |none=> (pool.length+1,pool++ [k])
structure AsF where
 at':Nat
 fr:Nat
 lab:ByteArray
structure AsT where
 lo:ByteArray
 hi:ByteArray
 tg:ByteArray
 kind:Nat
structure AsM where
 mv:aqA
 line:Nat
 first:Bool
 labels:List (List UInt8×Nat)
 jumps:List AsF
 traps:List AsT
structure AsK where
 c:aqj
 part:Nat
 line:Nat
 m:Option AsM
def AsK.need (σ:AsK) (k:Ko):Nat×AsK:=((dqz σ.c.pool k).1,{ σ with c:={ σ.c with pool:=(dqz σ.c.pool k).2 } })
def AsK.text (σ:AsK) (s:ByteArray):Nat×AsK:=σ.need ⟨1,s,0,0,0⟩
def AsK.cls (σ:AsK) (s:ByteArray):Nat×AsK:=(σ.text s).2.need ⟨7,⟨#[]⟩,0,(σ.text s).1,0⟩
def AsK.number (σ:AsK) (n:Int):Nat×AsK:=σ.need ⟨3,⟨#[]⟩,n,0,0⟩
def AsK.member (σ:AsK) (tag:Int) (c n d:ByteArray):Nat×AsK:=
 let a:=σ.cls c
 let x:=a.2.text n
 let y:=x.2.text d
 let z:=y.2.need ⟨12,⟨#[]⟩,0,x.1,y.1⟩
 z.2.need ⟨tag,⟨#[]⟩,0,a.1,z.1⟩
def cqP:List (List UInt8×Nat):=
 [([112,117,98,108,105,99],0),([112,114,105,118,97,116,101],1),([112,114,111,116,101,99,116,101,100],2),([115,116,97,116,105,99],3),([102,105,110,97,108],4),([115,117,112,101,114],5),([110,97,116,105,118,101],8),([105,110,116,101,114,102,97,99,101],9),([97,98,115,116,114,97,99,116],10)]
def cqw (w:List UInt8):Nat:=
 match cqP.find? (fun r=>r.1==w) with
 |some r=>2^r.2
 |none=>0
def aqS:List ByteArray→Nat→Option Nat
 | [],all=>some all
 |w::l,all=>if cqw w.data.toList≠0∧all&&&cqw w.data.toList=0 then aqS l (all|||cqw w.data.toList) else none
def dqP (c:UInt8):Bool:=decide (48≤c.toNat)&&decide (c.toNat≤57)
def gqb (l:List UInt8):Nat:=l.foldl (fun n c=>10*n+(c.toNat - 48)) 0
def aqz (w:List UInt8) (lo hi:Int):Option Int:=
 let neg:=Lib.hasPrefix w [45]
 let s:=if neg then w.drop 1 else w
 if s= []∨11<w.length∨(s.headD 0=48∧w≠ [48]) then none
 else if s.all dqP then
  let v:Int:=if neg then -(gqb s:Int) else gqb s
  if lo≤v∧v≤hi then some v else none
 else none
def dqg (c:UInt8):Bool:=c==32||c==9
def aqy:List UInt8→List UInt8→List (List UInt8)
 | [],cur=>if cur= [] then [] else [cur]
 |c::l,cur=>if dqg c then(if cur= [] then aqy l [] else cur::aqy l []) else aqy l (cur++ [c])
def bqj (s:ByteArray):List ByteArray:=(aqy s.data.toList []).map fun l=> ⟨l.toArray⟩
def aqI (s:ByteArray):List ByteArray:=
 let l:=Lib.splitB ⟨#[10]⟩ 0 (Lib.countB s ⟨#[10]⟩) s
 if(l.getLastD ⟨#[]⟩).size=0 then l.dropLast else l
def bqg:ByteArray:=⟨#[106,97,118,97,47,108,97,110,103,47,79,98,106,101,99,116]⟩
def aq7:ByteArray:=⟨#[67,111,110,115,116,97,110,116,86,97,108,117,101]⟩
def hqS:ByteArray:=⟨#[67,111,100,101]⟩
def AsK.object (σ:AsK):AsK:=
 if σ.part=1 then
  let r:=σ.cls bqg
  { r.2 with c:={ r.2.c with sup:=r.1 },part:=2 }
 else σ
def AsK.field (σ:AsK) (w:List ByteArray):Option AsK:=
 let value:=decide (4<w.length)&&(w.getD (w.length - 2) ⟨#[]⟩).data.toList== [61]
 let n:=if value then w.length - 2 else w.length
 match aqS ((w.take n).drop 3) 0 with
 |none=>none
 |some acc=>
  match(if value then aqz (w.getD (n+1) ⟨#[]⟩).data.toList (-2147483648) 2147483647 else some 0) with
  |none=>none
  |some v=>
   let x:=σ.text (w.getD 1 ⟨#[]⟩)
   let y:=x.2.text (w.getD 2 ⟨#[]⟩)
   if value then
    let z:=y.2.number v
    let u:=z.2.text aq7
    some { u.2 with c:={ u.2.c with flds:=u.2.c.flds++ [⟨acc,x.1,y.1,z.1⟩] } }
   else some { y.2 with c:={ y.2.c with flds:=y.2.c.flds++ [⟨acc,x.1,y.1,0⟩] } }
def AsK.begin (σ:AsK) (w:List ByteArray):Option AsK:=
 match aqS (w.drop 3) 0 with
 |none=>none
 |some acc=>
  let x:=σ.text (w.getD 1 ⟨#[]⟩)
  let y:=x.2.text (w.getD 2 ⟨#[]⟩)
  if acc&&&1024≠0 then some { y.2 with c:={ y.2.c with mths:=y.2.c.mths++ [⟨acc,x.1,y.1,false,0,0, [], []⟩] } }
  else
   let z:=y.2.text hqS
   some { z.2 with m:=some ⟨⟨acc,x.1,y.1,true,8,(aqk (w.getD 2 ⟨#[]⟩)).1.size+4, [], []⟩,σ.line,true, [], [], []⟩ }
def isW (w:List ByteArray) (s:List UInt8):Bool:=(w.headD ⟨#[]⟩).data.toList==s
def AsK.outside (σ:AsK) (w:List ByteArray):Option AsK:=
 if σ.part=0 then
  if isW w [99,108,97,115,115]=true∧1<w.length then
   match aqS (w.drop 2) 0 with
   |none=>none
   |some acc=>
    let r:=σ.cls (w.getD 1 ⟨#[]⟩)
    some { r.2 with c:={ r.2.c with acc:=acc,this:=r.1 },part:=1 }
  else none
 else if isW w [115,117,112,101,114]=true then
  if σ.part=1∧w.length=2 then
   let r:=σ.cls (w.getD 1 ⟨#[]⟩)
   some { r.2 with c:={ r.2.c with sup:=r.1 },part:=2 }
  else none
 else
  let σ:=σ.object
  if isW w [105,109,112,108,101,109,101,110,116,115]=true then
   if σ.part≤3∧w.length=2 then
    let r:=σ.cls (w.getD 1 ⟨#[]⟩)
    some { r.2 with c:={ r.2.c with ifs:=r.2.c.ifs++ [(r.1:Int)] },part:=3 }
   else none
  else if isW w [102,105,101,108,100]=true then
   if σ.part≤4∧2<w.length then{ σ with part:=4:AsK }.field w else none
  else if isW w [109,101,116,104,111,100]=true then
   if 2<w.length then{ σ with part:=5:AsK }.begin w else none
  else none
def aqn (n:Int):UInt8:=UInt8.ofNat (n%256).toNat
def bql (l:List (List UInt8×Nat)) (s:ByteArray):Option Nat:=(l.find? fun r=>r.1==s.data.toList).map (·.2)
def bqO (labels:List (List UInt8×Nat)):List AsF→List UInt8→Option (List UInt8)
 | [],code=>some code
 |j::l,code=>
  match bql labels j.lab with
  |none=>none
  |some p=>
   let n:Int:=p - j.fr
   if -32768≤n∧n≤32767 then bqO labels l ((code.set j.at' (aqn (n/256))).set (j.at'+1) (aqn n)) else none
def bqL (labels:List (List UInt8×Nat)):List AsT→Option (List bq2)
 | []=>some []
 |t::l=>
  match bql labels t.lo,bql labels t.hi,bql labels t.tg with
  |some a,some b,some c=> (bqL labels l).map (⟨a,b,c,t.kind⟩:: ·)
  |_,_,_=>none
def AsK.endM (σ:AsK) (m:AsM):Option AsK:=
 match bqO m.labels m.jumps m.mv.code with
 |none=>none
 |some code=>
  match bqL m.labels m.traps with
  |none=>none
  |some ts=>some { σ with m:=none,c:={ σ.c with mths:=σ.c.mths++ [{ m.mv with code:=code,traps:=ts }] } }
structure AsI where
 k:AsK
 code:List UInt8
 jumps:List AsF
 rest:List ByteArray
def aqT (n:Int):List UInt8:= [aqn (n/256),aqn n]
def cqr (name:List UInt8) (begin:Nat) (x:AsI) (c:UInt8):Option AsI:=
 let h:=x.rest.headD ⟨#[]⟩
 if c=98 then(aqz h.data.toList (-128) 127).map fun v=> { x with code:=x.code++ [aqn v],rest:=x.rest.drop 1 }
 else if c=117 then
  if name≠ [108,100,99] then(aqz h.data.toList 0 255).map fun v=> { x with code:=x.code++ [aqn v],rest:=x.rest.drop 1 }
  else
   match aqz h.data.toList (-2147483648) 2147483647 with
   |none=>none
   |some v=>if(x.k.number v).1<256 then some { x with k:=(x.k.number v).2,code:=x.code++ [aqn (x.k.number v).1],rest:=x.rest.drop 1 } else none
 else if c=115 then(aqz h.data.toList (-32768) 32767).map fun v=> { x with code:=x.code++aqT v,rest:=x.rest.drop 1 }
 else if c=106 then some { x with jumps:=x.jumps++ [⟨x.code.length,begin,h⟩],code:=x.code++ [0,0],rest:=x.rest.drop 1 }
 else if c=99 then some { x with k:=(x.k.cls h).2,code:=x.code++aqT (x.k.cls h).1,rest:=x.rest.drop 1 }
 else
  let tag:Int:=if c=102 then 9 else if c=109 then 10 else 11
  let r:=x.k.member tag h (x.rest.getD 1 ⟨#[]⟩) (x.rest.getD 2 ⟨#[]⟩)
  some { x with k:=r.2,code:=x.code++aqT r.1++(if c=105 then [aqn ((aqk (x.rest.getD 2 ⟨#[]⟩)).1.size+1),0] else []),rest:=x.rest.drop 3 }
def aqL (name:List UInt8) (begin:Nat):List UInt8→AsI→Option AsI
 | [],x=>some x
 |c::l,x=> (cqr name begin x c).bind (aqL name begin l)
def bqY (form:List UInt8):Nat:=(form.map fun c=>if c=102∨c=109∨c=105 then 3 else 1).sum
def AsK.instr (σ:AsK) (m:AsM) (w:List ByteArray):Option AsK:=
 let code:=aqP (w.headD ⟨#[]⟩).data.toList
 if code<0 then none
 else
  let r:=aqc code
  if w.length - 1≠bqY r.2 then none
  else(aqL r.1 m.mv.code.length r.2 ⟨σ,m.mv.code++ [aqn code],m.jumps,w.drop 1⟩).map fun x=>
   { x.k with m:=some { m with mv:={ m.mv with code:=x.code },jumps:=x.jumps } }
def AsK.inside (σ:AsK) (m:AsM) (w:List ByteArray):Except Nat AsK:=
 let h:=(w.headD ⟨#[]⟩).data.toList
 let wrong:Option AsK→Except Nat AsK:=fun o=>match o with|none=> .error σ.line|some x=> .ok x
 let m':={ m with first:=false }
 if m.first=true∧h= [108,105,109,105,116,115] then
  if w.length=3 then
   wrong ((aqz (w.getD 1 ⟨#[]⟩).data.toList 0 255).bind fun a=> (aqz (w.getD 2 ⟨#[]⟩).data.toList 0 255).map fun b=>
    { σ with m:=some { m' with mv:={ m.mv with stack:=a,locals:=b } } })
  else .error σ.line
 else if w.length=1∧h= [101,110,100] then
  match σ.endM m' with
  |none=> .error m.line
  |some x=> .ok x
 else if w.length=1∧h.getLastD 0=58 then
  let s:=h.dropLast
  if s≠ []∧s.length≤255∧(58:UInt8)∉s∧bql m.labels ⟨s.toArray⟩=none then .ok { σ with m:=some { m' with labels:=m.labels++ [(s,m.mv.code.length)] } }
  else .error σ.line
 else if h= [116,114,97,112] then
  if w.length=4 then .ok { σ with m:=some { m' with traps:=m.traps++ [⟨w.getD 1 ⟨#[]⟩,w.getD 2 ⟨#[]⟩,w.getD 3 ⟨#[]⟩,0⟩] } }
  else if w.length=5 then
   let r:=σ.cls (w.getD 4 ⟨#[]⟩)
   .ok { r.2 with m:=some { m' with traps:=m.traps++ [⟨w.getD 1 ⟨#[]⟩,w.getD 2 ⟨#[]⟩,w.getD 3 ⟨#[]⟩,r.1⟩] } }
  else .error σ.line
 else wrong (σ.instr m' w)
def AsK.doLine (σ:AsK) (s:ByteArray):Except Nat AsK:=
 let w:=bqj s
 if w= []∨(w.headD ⟨#[]⟩).data.toList.headD 0=35 then .ok σ
 else match σ.m with
  |some m=>σ.inside m w
  |none=>match σ.outside w with
   |none=> .error σ.line
   |some x=> .ok x
def eq3:List ByteArray→Nat→AsK→Except Nat AsK
 | [],_,σ=> .ok σ
 |s::l,i,σ=>match{ σ with line:=i+1:AsK }.doLine s with
  | .error e=> .error e
  | .ok x=>eq3 l (i+1) x
def AsK.new:AsK:=⟨⟨0,52, [],0,0,0, [], [], []⟩,0,0,none⟩
def cq9 (ck:aqj→Int) (text:ByteArray):Except (Nat×Int) aqj:=
 if 262144<text.size∨8000< (aqI text).length then .error (0,2)
 else match eq3 (aqI text) 0 .new with
  | .error n=> .error (n,60)
  | .ok σ=>match σ.m with
   |some m=> .error (m.line,60)
   |none=>if σ.part=0 then .error (0,60)
    else
     let c:=σ.object.c
     if ck c≠0 then .error (0,ck c) else .ok c
def eqT:List UInt8→List (List UInt8)
 | []=> [[]]
 |c::l=>if c=10 then []::eqT l else match eqT l with
  | []=> [[c]]
  |h::t=> (c::h)::t
theorem fqv (l:List UInt8):eqT l≠ []:=by
 cases l with
 |nil=>simp [eqT]
 |cons c l=>
  rw [eqT]
  split
  ·simp
  split<;>simp
theorem dqR (l:List UInt8) (c:UInt8):(indexByte l c= -1∧l.count c=0)∨ ∃i:Nat,indexByte l c=i∧0<l.count c∧i<l.length:=by
 induction l with
 |nil=>exact .inl ⟨rfl,rfl⟩
 |cons b l ih=>
  by_cases hb:b=c
  ·subst hb
   exact .inr ⟨0,by simp [indexByte],by simp,by simp⟩
  have hb2:(b==c)=false:=by simpa using hb
  rcases ih with⟨h1,h2⟩ | ⟨i,h1,h2,h3⟩
  ·exact .inl ⟨by simp [indexByte,hb2,h1],by rw [List.count_cons_of_ne (by simpa using hb)];exact h2⟩
  refine .inr ⟨i+1, ?_,by rw [List.count_cons_of_ne (by simpa using hb)];exact h2,by simp;omega⟩
  have: ¬((i:Int)== -1)=true:=by simp
  simp [indexByte,hb2,h1]
theorem gqj: ∀l:List UInt8,splitK [10] 0 (l.count 10) l=eqT l
 | []=>rfl
 |c::l=>by
  have ih:=gqj l
  by_cases hc:c=10
  ·subst hc
   rw [List.count_cons_self,splitK,eqT,if_pos rfl]
   have h0:index (10::l) [10]=0:=by rw [index_one];simp [indexByte]
   rw [h0,if_neg (by decide)]
   simpa using ih
  have hb2:(c==10)=false:=by simpa using hc
  rw [List.count_cons_of_ne (by simpa using hc),eqT,if_neg hc, ←ih]
  rcases dqR l 10 with⟨h1,h2⟩ | ⟨i,h1,h2,h3⟩
  ·rw [h2]
   rfl
  obtain⟨k,hk⟩: ∃k,l.count 10=k+1:=⟨l.count 10 - 1,by omega⟩
  rw [hk,splitK,splitK]
  have e1:index l [10]=i:=by rw [index_one];exact h1
  have e2:index (c::l) [10]=(i+1:Nat):=by
   rw [index_one]
   simp [indexByte,hb2,h1]
  rw [e1,e2,if_neg (by simp only [beq_iff_eq];omega),if_neg (by simp only [beq_iff_eq];omega)]
  simp only [Int.toNat_natCast,Nat.add_zero]
  rw [List.take_succ_cons]
  rfl
theorem kqz (s:ByteArray):(Lib.splitB ⟨#[10]⟩ 0 (Lib.countB s ⟨#[10]⟩) s).map (fun x:ByteArray=>x.data.toList)=eqT s.data.toList:=by
 rw [splitB_data, ←gqj]
 congr 1
 show Lib.count s.data.toList [10]=_
 exact count_one 10 _
def eq4 (l:List UInt8):List (List UInt8):=if(eqT l).getLastD []= [] then(eqT l).dropLast else eqT l
theorem gq4 {α β:Type} (f:α→β) (d:α) (l:List α):(l.map f).getLastD (f d)=f (l.getLastD d):=by
 rw [List.getLastD_eq_getLast?,List.getLastD_eq_getLast?,List.getLast?_map]
 cases l.getLast?<;>rfl
theorem eqV (s:ByteArray):(aqI s).map (fun x:ByteArray=>x.data.toList)=eq4 s.data.toList:=by
 unfold aqI eq4
 have h:=kqz s
 have hd:=gq4 (fun x:ByteArray=>x.data.toList) ⟨#[]⟩ (Lib.splitB ⟨#[10]⟩ 0 (Lib.countB s ⟨#[10]⟩) s)
 rw [h] at hd
 simp only [Array.toList] at hd
 have e: ∀x:ByteArray,x.size=0↔x.data.toList= []:=fun x=>by
  constructor
  ·intro hx
   have:x.data.toList.length=0:=by rw [Array.length_toList];exact hx
   exact List.length_eq_zero_iff.1 this
  intro hx
  have:x.data.toList.length=0:=by rw [hx];rfl
  rw [Array.length_toList] at this
  exact this
 by_cases h0:((Lib.splitB ⟨#[10]⟩ 0 (Lib.countB s ⟨#[10]⟩) s).getLastD ⟨#[]⟩).size=0
 ·have h1:=(e _).1 h0
  rw [if_pos h0,if_pos (hd.trans h1),List.map_dropLast,h]
 rw [if_neg h0,if_neg (fun hx=>h0 ((e _).2 (hd.symm.trans hx))),h]
def oqV (s:ByteArray):Prop:=bqj s= []∨((bqj s).headD ⟨#[]⟩).data.toList.headD 0=35
theorem kqA {s:ByteArray} (h:oqV s) (σ:AsK):σ.doLine s= .ok σ:=by
 unfold AsK.doLine
 exact if_pos h
theorem mqw (l r:List UInt8) (h:(10:UInt8)∉l):eqT (l++10::r)=l::eqT r:=by
 induction l with
 |nil=>rw [List.nil_append,eqT,if_pos rfl]
 |cons c l ih=>
  rw [List.cons_append,eqT,if_neg (fun e=>h (by simp [e])),ih (fun hm=>h (by simp [hm]))]
def gqc (ls:List (List UInt8)):List UInt8:=(ls.map (· ++ [10])).flatten
theorem jqj (l:List UInt8) (ls:List (List UInt8)):gqc (l::ls)=l++10::gqc ls:=by simp [gqc]
theorem nqY (a b:List (List UInt8)):gqc (a++b)=gqc a++gqc b:=by simp [gqc]
theorem mqx (ls:List (List UInt8)) (h: ∀l∈ls,(10:UInt8)∉l):eqT (gqc ls)=ls++ [[]]:=by
 induction ls with
 |nil=>rfl
 |cons l ls ih=>
  rw [jqj,mqw _ _ (h l (by simp)),ih (fun x hx=>h x (by simp [hx]))]
  rfl
theorem jqk (ls:List (List UInt8)) (h: ∀l∈ls,(10:UInt8)∉l):eq4 (gqc ls)=ls:=by
 unfold eq4
 rw [mqx ls h,if_pos]
 ·simp
 rw [List.getLastD_eq_getLast?,List.getLast?_concat]
 rfl
def nqZ (l:List UInt8):ByteArray:=⟨l.toArray⟩
theorem oqm {text:ByteArray} {ls:List (List UInt8)} (ht:text.data.toList=gqc ls) (h: ∀l∈ls,(10:UInt8)∉l):aqI text=ls.map nqZ:=by
 have h1:=eqV text
 rw [ht,jqk ls h] at h1
 rw [←h1,List.map_map]
 conv=>lhs;rw [←List.map_id (aqI text)]
 refine List.map_congr_left fun x _=> ?_
 simp [nqZ]
theorem oqn (a b:List ByteArray) (i:Nat) (σ:AsK):eq3 (a++b) i σ=match eq3 a i σ with| .error e=> .error e| .ok x=>eq3 b (i+a.length) x:=by
 induction a generalizing i σ with
 |nil=>rfl
 |cons s l ih=>
  rw [List.cons_append,eq3,eq3]
  cases AsK.doLine { σ with line:=i+1 } s with
  |error e=>rfl
  |ok x=>
   simp only
   rw [ih]
   simp only [List.length_cons]
   rw [show i+1+l.length=i+(l.length+1) by omega]
theorem run_ok {l:List ByteArray} {i:Nat} {σ x:AsK} {s:ByteArray} {r:Except Nat AsK} (h:AsK.doLine { σ with line:=i+1 } s= .ok x) (h2:eq3 l (i+1) x=r):eq3 (s::l) i σ=r:=by
 rw [eq3,h]
 exact h2
structure Rs where
 pos:Nat
 most:Nat
 named:Nat
 pool:List Ko
abbrev Rx (α:Type):=Except (Nat×Nat) (α×Rs)
def Rx.bind {α β:Type} (x:Rx α) (f:α→Rs→Rx β):Rx β:=
 match x with
 | .error e=> .error e
 | .ok (a,s)=>f a s
def Rx.pre {α:Type} (cs:List α) (x:Rx (List α)):Rx (List α):=Rx.bind x fun r s=> .ok (cs++r,s)
end Go.Proofs.YtlcidkiplidamaaGreatDoor
namespace Go.Proofs.YtlcidkiplidamaaGreatDoor
open Go Go.RowKit
theorem jql (a b:Nat) (ha:a<9223372036854775808) (hb:b<9223372036854775808):bits .or .i64 (a:Int) (b:Int)=((a|||b:Nat):Int):=by
 have hx:a|||b<2^63:=Nat.or_lt_two_pow (by omega) (by omega)
 show IntKind.i64.wrap ((BitVec.ofInt 64 (a:Int) |||BitVec.ofInt 64 (b:Int)).toNat:Int)=_
 rw [BitVec.toNat_or,ofInt_u64 a (by omega),ofInt_u64 b (by omega),IntKind.wrap_i64]
 omega
theorem cqk (a b:Nat) (ha:a<9223372036854775808) (hb:b<9223372036854775808):bits .and .i64 (a:Int) (b:Int)=((a&&&b:Nat):Int):=by
 have hx:a&&&b<2^63:=Nat.and_lt_two_pow _ (by omega)
 show IntKind.i64.wrap ((BitVec.ofInt 64 (a:Int)&&&BitVec.ofInt 64 (b:Int)).toNat:Int)=_
 rw [BitVec.toNat_and,ofInt_u64 a (by omega),ofInt_u64 b (by omega),IntKind.wrap_i64]
 omega
end Go.Proofs.YtlcidkiplidamaaGreatDoor
set_option maxRecDepth 100000
set_option maxHeartbeats 1000000
namespace Go.Proofs.YtlcidkiplidamaaGreatDoor
open Go Go.RowKit Lib
structure kqB (w:World) (r:Nat) (A:Option Addr) (cap:Nat) (l:List UInt8) (st:Rs):Prop where
 c0:w.cell? ⟨r,0,none⟩=some (.slice A l.length cap)
 c1:w.cell? ⟨r,1,none⟩=some (.int .i64 st.pos)
 c2:w.cell? ⟨r,2,none⟩=some (.int .i64 st.most)
 c3:w.cell? ⟨r,3,none⟩=some (.int .i64 st.named)
 fz: ∀o,w.frozen? ⟨r,o,none⟩=false
 rd:RdB w A l.length cap l
 ne: ∀a,A=some a→a.block≠r
 lt:r<w.heap.size
 len:l.length≤65536
 pos:st.pos≤l.length
 pm:st.pos≤st.most
 most:st.most≤4611686018427387904
structure RB (r:Nat) (w w':World):Prop where
 but:But w.heap.size [r] w w'
 c4:w'.cell? ⟨r,4,none⟩=w.cell? ⟨r,4,none⟩
theorem RB.refl (r:Nat) (w:World):RB r w w:=⟨But.refl _ _ _,rfl⟩
theorem RB.of_below {r:Nat} {w w':World} (hr:r<w.heap.size) (h:Below w.heap.size w w'):RB r w w':=⟨But.of_below h,h.cell (p:=⟨r,4,none⟩) hr⟩
def stopV (a e:Nat):Value:= .iface 117 (.agg #[.int .i64 a, .int .i64 e])
def oqY {α:Type} (w:World) (r:Nat) (A:Option Addr) (cap:Nat) (l:List UInt8) (p:Rx α) (rep:α→Value→World→Prop) (e:Ending) (w':World):Prop:=
 RB r w w'∧match p with
  | .ok (x,st')=> ∃v,e= .returned v∧rep x v w'∧kqB w' r A cap l st'
  | .error (a,er)=>e= .panicked [{ v:=stopV a er,recovered:=false }]
theorem RdB.but {w w':World} {A:Option Addr} {len cap:Nat} {l:List UInt8} {S:List Nat} (h:RdB w A len cap l) (hb:But w.heap.size S w w') (hs: ∀a,A=some a→a.block∉S):RdB w' A len cap l:=
 ⟨h.hlen,h.hle,h.hmax,fun h0=>by
  obtain⟨b,off,rfl,hlt,hc⟩:=h.hat h0
  have hs':b∉S:=hs _ rfl
  exact⟨b,off,rfl,Nat.lt_of_lt_of_le hlt hb.size,fun i hi=> (hb.cell (p:=⟨b,off+i,none⟩) hlt hs').trans (hc i hi)⟩⟩
theorem kqB.keep {w w':World} {r:Nat} {A:Option Addr} {cap:Nat} {l:List UInt8} {st:Rs} (h:kqB w r A cap l st) (hb:Below w.heap.size w w'):kqB w' r A cap l st where
 c0:=(hb.cell (p:=⟨r,0,none⟩) h.lt).trans h.c0
 c1:=(hb.cell (p:=⟨r,1,none⟩) h.lt).trans h.c1
 c2:=(hb.cell (p:=⟨r,2,none⟩) h.lt).trans h.c2
 c3:=(hb.cell (p:=⟨r,3,none⟩) h.lt).trans h.c3
 fz:=fun o=> (hb.frozen (p:=⟨r,o,none⟩) h.lt).trans (h.fz o)
 rd:=h.rd.below hb
 ne:=h.ne
 lt:=Nat.lt_of_lt_of_le h.lt hb.size
 len:=h.len
 pos:=h.pos
 pm:=h.pm
 most:=h.most
theorem But.set {B:Nat} {S:List Nat} {a w:World} (h:But B S a w) (p:Addr) (hp:p.block∈S∨B≤p.block) (v:Value):But B S a (w.setCell p v):=by
 have hb:Below p.block w (w.setCell p v):=(Below.refl _ _).setCell (Nat.le_refl _) v
 refine h.trans ⟨hb.os,hb.tape,hb.output,hb.size,fun k hk hs=>Below.heap_setCell w p v k (fun e=> ?_)⟩
 subst e
 rcases hp with hp|hp
 ·exact hs hp
 omega
theorem oqY.val {α:Type} {w:World} {r:Nat} {A:Option Addr} {cap:Nat} {l:List UInt8} {p:Rx α} {rep:α→Value→World→Prop} {e:Ending} {w':World} {x:α} {st':Rs} (h:oqY w r A cap l p rep e w') (hp:p= .ok (x,st')):
  RB r w w'∧ ∃v,e= .returned v∧rep x v w'∧kqB w' r A cap l st':=by
 subst hp
 exact h
def Bx (w:World) (g:Nat) (vs:List Value) (t:TypeId):Prop:=w.heap[g]?=some (.cells vs.toArray t (0,0))
theorem aqo (w:World) (vs:List Value) (t:TypeId):Bx (w.alloc (.cells vs.toArray t)) w.heap.size vs t:=heap_alloc_new w _
theorem Bx.cell {w:World} {g:Nat} {vs:List Value} {t:TypeId} (h:Bx w g vs t) (j:Nat) {u:Value} (hj:vs[j]?=some u):w.cell? ⟨g,j,none⟩=some u:=by
 unfold World.cell?
 rw [h]
 simpa using hj
theorem Bx.frozen {w:World} {g:Nat} {vs:List Value} {t:TypeId} (h:Bx w g vs t) (j:Nat):w.frozen? ⟨g,j,none⟩=false:=by
 unfold World.frozen?
 rw [h]
 simp
theorem Bx.lt {w:World} {g:Nat} {vs:List Value} {t:TypeId} (h:Bx w g vs t):g<w.heap.size:=(Array.getElem?_eq_some_iff.1 h).1
theorem Bx.but {w w':World} {g:Nat} {vs:List Value} {t:TypeId} (h:Bx w g vs t) {S:List Nat} (hb:But w.heap.size S w w') (hs:g∉S):Bx w' g vs t:=(hb.block g h.lt hs).trans h
theorem Bx.below {w w':World} {g:Nat} {vs:List Value} {t:TypeId} (h:Bx w g vs t) {B:Nat} (hb:Below B w w') (hg:g<B):Bx w' g vs t:=(hb.block g hg).trans h
theorem RdB.low {w w':World} {A:Option Addr} {len cap B:Nat} {l:List UInt8} (h:RdB w A len cap l) (hb:Below B w w') (hs: ∀a,A=some a→0<len→a.block<B):RdB w' A len cap l:=
 ⟨h.hlen,h.hle,h.hmax,fun h0=>by
  obtain⟨b,off,rfl,hlt,hc⟩:=h.hat h0
  have hs':b<B:=hs _ rfl h0
  exact⟨b,off,rfl,Nat.lt_of_lt_of_le hlt hb.size,fun i hi=> (hb.cell (p:=⟨b,off+i,none⟩) hs').trans (hc i hi)⟩⟩
theorem But.below_trans {B:Nat} {S:List Nat} {a w w':World} (h:But B S a w) (hb:Below B w w'):But B S a w':=h.trans (But.of_below hb)
theorem eq5 {g r:Nat} (h:g≠r):g∉ [r]:=by simpa using h
theorem aql (w:World) (vs:List Value) (t:TypeId) (g:Nat) (hg:g=w.heap.size):Bx (w.alloc (.cells vs.toArray t)) g vs t:=by
 subst hg
 exact aqo w vs t
theorem Bx.set {w:World} {g:Nat} {vs:List Value} {t:TypeId} (h:Bx w g vs t) (j:Nat) (u:Value):Bx (w.setCell ⟨g,j,none⟩ u) g (vs.set j u) t:=by
 unfold Bx at*
 simp [World.setCell,Array.getElem?_modify,h]
theorem Bx.set_other {w:World} {g:Nat} {vs:List Value} {t:TypeId} (h:Bx w g vs t) (p:Addr) (u:Value) (hne:p.block≠g):Bx (w.setCell p u) g vs t:=by
 have:=Below.heap_setCell w p u g (by omega)
 exact this.trans h
def koV (k:Ko):Value:= .agg #[.int .i64 k.tag, .string k.text, .int .i64 k.num, .int .i64 k.a, .int .i64 k.b]
set_option maxHeartbeats 2000000
theorem dqa {α:Type} (f:α→List Value) (s:Nat) (hs: ∀x,(f x).length=s): ∀(l:List α) (j:Nat) (x:α),l[j]?=some x→ ∀q,q<s→(l.flatMap f)[j*s+q]?=(f x)[q]?
 | [],j,x,h,q,hq=>by simp at h
 |y::l,0,x,h,q,hq=>by
  simp at h
  subst h
  rw [List.flatMap_cons,Nat.zero_mul,Nat.zero_add,List.getElem?_append_left (by rw [hs];exact hq)]
 |y::l,j+1,x,h,q,hq=>by
  have e:(j+1)*s+q=s+(j*s+q):=by rw [Nat.succ_mul];omega
  rw [List.flatMap_cons,List.getElem?_append_right (by rw [hs,e];omega),hs,e,Nat.add_sub_cancel_left]
  exact dqa f s hs l j x (by simpa using h) q hq
def oqW (w:World) (r:Nat) (ok:Nat→Prop) (pool:List Ko):Prop:= ∃pv,w.cell? ⟨r,4,none⟩=some pv∧cqX w ok 5 pool.length (pool.flatMap Ko.cells) pv
theorem oqW.step {w w':World} {r:Nat} {ok:Nat→Prop} {pool:List Ko} (h:oqW w r ok pool) (hb:RB r w w') (hr: ∀g,ok g→g≠r):oqW w' r ok pool:=by
 obtain⟨pv,h1,h2⟩:=h
 exact⟨pv,hb.c4.trans h1,h2.keep (bqE.of_but hb.but (fun g hg=>by simpa using hr g hg))⟩
theorem oqW.low {w w':World} {r:Nat} {ok:Nat→Prop} {pool:List Ko} (h:oqW w r ok pool) (hr:r<w.heap.size) (hb:Below w.heap.size w w'):oqW w' r ok pool:=by
 obtain⟨pv,h1,h2⟩:=h
 exact⟨pv,(hb.cell (p:=⟨r,4,none⟩) hr).trans h1,h2.keep (bqE.of_below hb)⟩
set_option maxHeartbeats 1000000
theorem aqt {P:Program} {w:World} {ops:Array Oper} {o:Oper} {a:Act} {K:Act→World→Prop} {Q:Exit→Act→World→Prop} {E:Prop} (hgd:o.guard=none) (s x:Operand) (t:TypeId)
  (ho:o.op= .call { callee:= .builtin .append,args:= #[s,x],argTypes:= #[t,t] }) {e:TypeId} {z:Value} {size bytes:Nat}
  (ht:P.underlying t=some (.slice e)) (hi:(P.info? e).map (fun i=> (i.zero,i.size,i.bytes))=some (some z,size,bytes)) (hzs:z.cells.size=size) (hsz:0<size)
  (base:Nat) {v:Value} {n:Nat} {xs:List Value} (hs:a.eval s=v) (hown:w.ownsRow base e size v n xs)
  {ad:Addr} {m c:Nat} {news:List Value} (hx:a.eval x= .slice (some ad) m c) (hl:news.length=m*size) (hnews: ∀j u,news[j]?=some u→w.cell? (ad.add j)=some u) (h1: ∀u∈news,u.oneCell'=true)
  (hm:0<m) (h63:n+m≤maxLen) (hbytes:(n+m)*bytes≤140737488355328) (hbase:base≤w.heap.size)
  (h: ∀g cap w',w'.ownsRow base e size (.slice (some ⟨g,0,none⟩) (n+m) cap) (n+m) (xs++news)→w.grownBy w' v.ownBlock→Below base w w'→(v.ownBlock=some g∨g=w.heap.size)→
   K (a.put o.dst (.slice (some ⟨g,0,none⟩) (n+m) cap)) w'):if Region.wanted o (yielded ops a.tmps)=true then Oper.wp P o a w K Q else E:=by
 obtain⟨i,hi,hz,hsize,hby⟩:=info_parts hi
 exact step_append_lies w hgd s x t ho base e i z size bytes ht hi hz hsize hby hzs hsz v n xs hs hown ad m c news hx hl hnews h1 hm h63 hbytes hbase _ rfl fun g cap w' h2 h3 h4 _=>h g cap w' h2 h3 ((Below.refl _ _).grown h3 hbase fun k hk=> (hown.lt k hk).1) h4
theorem gqk:(Tryz.prog.info? 33).map (fun i=> (i.zero,i.size,i.bytes))=some (some (.agg #[.int .i64 0, .string ⟨#[]⟩, .int .i64 0, .int .i64 0, .int .i64 0]),5,48):=by kernel_rfl
theorem aqf {w:World} {base:Nat} {e:TypeId} {size n:Nat} {v:Value} {xs:List Value} (h:w.ownsRow base e size v n xs): ∃A cap,v= .slice A n cap:=by
 rcases h.2 with⟨rfl,rfl⟩ | ⟨g,cap,cur,rfl,_⟩
 ·exact⟨none,0,rfl⟩
 exact⟨_,cap,rfl⟩
structure Kp (lo:Nat) (v w:World):Prop where
 kept:bqE (fun g=>lo≤g∧g<v.heap.size) v w
theorem Kp.refl (lo:Nat) (v:World):Kp lo v v:=⟨⟨Nat.le_refl _,fun _ _ _ _=>rfl⟩⟩
theorem Kp.size {lo:Nat} {v w:World} (h:Kp lo v w):v.heap.size≤w.heap.size:=h.kept.size
theorem Kp.set {lo:Nat} {v w:World} (h:Kp lo v w) (p:Addr) (u:Value) (hp:p.block<lo):Kp lo v (w.setCell p u):=
 ⟨⟨by simpa using h.size,fun g hg ho o=> (World.cell?_of_block (w:=w) (Below.heap_setCell w p u g (by omega))).trans (h.kept.cell g hg ho o)⟩⟩
theorem Kp.below {lo:Nat} {v w w':World} (h:Kp lo v w) (hb:Below v.heap.size w w'):Kp lo v w':=
 ⟨⟨Nat.le_trans h.size hb.size,fun g hg ho o=> (hb.cell (p:=⟨g,o,none⟩) ho.2).trans (h.kept.cell g hg ho o)⟩⟩
theorem Kp.alloc {lo:Nat} {v w:World} (h:Kp lo v w) (o:Obj) (_:True):Kp lo v (w.alloc o):=h.below ((Below.refl _ _).alloc h.size o)
theorem Kp.step {lo:Nat} {v w w':World} {r:Nat} (h:Kp lo v w) (hb:But w.heap.size [r] w w') (hr:r<lo) (_:True):Kp lo v w':=
 ⟨⟨Nat.le_trans h.size hb.size,fun g hg ho o=> (hb.cell (p:=⟨g,o,none⟩) (Nat.lt_of_lt_of_le ho.2 h.size) (by simp;omega)).trans (h.kept.cell g hg ho o)⟩⟩
theorem Bx.row {w:World} {g:Nat} {vs:List Value} {t:TypeId} (h:Bx w g vs t) (cs:List Value):Bx (w.setRow g cs.toArray) g cs t:=setRow_heap w g _ _ t _ h
theorem Kp.row {lo g:Nat} {v w:World} (h:Kp lo v w) (hg:g<lo) (cs:Array Value):Kp lo v (w.setRow g cs):=
 ⟨⟨by simpa using h.size,fun k hk ho o=> (World.cell?_of_block (w:=w) (setRow_other w g k cs (by omega))).trans (h.kept.cell k hk ho o)⟩⟩
def cqi (f:aqB):Value:= .agg #[.int .i64 f.acc, .int .i64 f.name, .int .i64 f.desc, .int .i64 f.value]
def bq3 (m:aqA) (code traps:Value):Value:= .agg #[.int .i64 m.acc, .int .i64 m.name, .int .i64 m.desc, .bool m.has, .int .i64 m.stack, .int .i64 m.locals,code,traps]
def aqq (pool:List Ko) (n tag:Int):Option Ko:=if n<1 then none else match pool[(n - 1).toNat]? with
 |none=>none
 |some k=>if k.tag=tag then some k else none
def bqa:Ko:=⟨0,⟨#[]⟩,0,0,0⟩
def bqm (o:Option Ko):Value:= .tuple #[koV (o.getD bqa), .bool o.isSome]
theorem bq4 {w:World} {ok:Nat→Prop} {pool:List Ko} {A:Option Addr} {cap:Nat} (h:cqX w ok 5 pool.length (pool.flatMap Ko.cells) (.slice A pool.length cap)): ∀(k:Nat) (x:Ko),pool[k]?=some x→ ∃b off,A=some ⟨b,off,none⟩∧b<w.heap.size∧
  w.cell? ⟨b,off+k*5,none⟩=some (.int .i64 x.tag)∧w.cell? ⟨b,off+k*5+1,none⟩=some (.string x.text)∧w.cell? ⟨b,off+k*5+2,none⟩=some (.int .i64 x.num)∧w.cell? ⟨b,off+k*5+3,none⟩=some (.int .i64 x.a)∧w.cell? ⟨b,off+k*5+4,none⟩=some (.int .i64 x.b):=by
 intro k x hk
 obtain⟨A',cap',e,_,_,_,h5⟩:=h
 injection e with e1 _ _
 subst e1
 obtain⟨b,off,e,hlt,_,hc⟩:=h5 (by have:=(List.getElem?_eq_some_iff.1 hk).1;omega)
 have hr:=dqa Ko.cells 5 (fun _=>rfl) pool k x hk
 exact⟨b,off,e,hlt,hc _ _ ((hr 0 (by omega)).trans rfl),hc _ _ ((hr 1 (by omega)).trans rfl),hc _ _ ((hr 2 (by omega)).trans rfl),hc _ _ ((hr 3 (by omega)).trans rfl),hc _ _ ((hr 4 (by omega)).trans rfl)⟩
def bqp (c:aqj) (pool ifs flds mths:Value):Value:= .agg #[.int .i64 c.minor, .int .i64 c.major,pool, .int .i64 c.acc, .int .i64 c.this, .int .i64 c.sup,ifs,flds,mths]
theorem cqc (c:aqj) (A:Option Addr) (cap:Nat) (ifs flds mths:Value) (n tag:Int) (ok:Nat→Prop) (w:World) (h:cqX w ok 5 c.pool.length (c.pool.flatMap Ko.cells) (.slice A c.pool.length cap)) (hifs:ifs.oneCell'=true) (hflds:flds.oneCell'=true) (hmths:mths.oneCell'=true) (hn:n≤4611686018427387904) (hn0: -4611686018427387904≤n):
  Calls Tryz.prog 85 #[bqp c (.slice A c.pool.length cap) ifs flds mths, .int .i64 n, .int .i64 tag] w fun e w'=>e= .returned (bqm (aqq c.pool n tag))∧Below w.heap.size w w':=by
 have hmax:c.pool.length≤1048576:=by
  obtain⟨_,_,_,_,h2,_⟩:=h
  exact h2
 have hcap:c.pool.length≤cap:=by
  obtain⟨_,_,e,h1,_⟩:=h
  injection e with _ _ e
  subst e
  exact h1
 have hcell:=bq4 h
 have HC:=Hq hcell
 clear h hcell
 obtain⟨mi,ma,pool,acc,th,su,fi,ff,fm⟩:=c
 simp only at hmax hcap HC⊢
 unfold bqp
 simp only
 by_cases h1:n<1
 ·have HP:=Hq (show aqq pool n tag=none by unfold aqq;rw [if_pos h1])
  go_enter Tryz.func85,Tryz.ntmps85
  go_wp2_with fail
  refine bodyPost_ret (v:=bqm none) (by simp [bqm,koV,bqa,results,Tryz.results85,go_sem]) rfl ⟨by rw [HP.out],((Below.refl _ _).alloc (Nat.le_refl _) _).alloc (by simp) _⟩
 obtain⟨k,rfl⟩: ∃k:Nat,n=(k:Int)+1:=⟨(n - 1).toNat,by omega⟩
 have hb1:decide ((k:Int)+1<1)=false:=by simp;omega
 rcases hx:pool[k]? with _|x
 ·have hge:pool.length≤k:=by simpa using hx
  have HP:=Hq (show aqq pool ((k:Int)+1) tag=none by unfold aqq;rw [if_neg h1,show((k:Int)+1 - 1).toNat=k by omega,hx])
  have hb2:decide ((pool.length:Int) < (k:Int)+1)=true:=by simp;omega
  have hgt:(pool.length:Int) < (k:Int)+1:=by omega
  have HX:=Hq hx
  clear hx
  go_enter Tryz.func85,Tryz.ntmps85
  go_wp2_with fail
  refine bodyPost_ret (v:=bqm none) (by simp [bqm,koV,bqa,results,Tryz.results85,go_sem]) rfl ⟨by rw [HP.out],((Below.refl _ _).alloc (Nat.le_refl _) _).alloc (by simp) _⟩
 have hlt:k<pool.length:=(List.getElem?_eq_some_iff.1 hx).1
 have hb2:decide ((pool.length:Int) < (k:Int)+1)=false:=by simp;omega
 have hgt: ¬(pool.length:Int) < (k:Int)+1:=by omega
 obtain⟨b,off,rfl,hbl,c0,c1,c2,c3,c4⟩:=HC.out k x hx
 obtain⟨x1,x2,x3,x4,x5,x6,x7,x8,x9,x10,x11,x12⟩:=far b w.heap.size hbl
 by_cases ht:x.tag=tag
 ·have HP:=Hq (show aqq pool ((k:Int)+1) tag=some x by unfold aqq;rw [if_neg h1,show((k:Int)+1 - 1).toNat=k by omega,hx];simp [ht])
  subst ht
  clear hx
  go_enter Tryz.func85,Tryz.ntmps85
  go_wp2_with fail
  refine bodyPost_ret (v:=bqm (some x)) (by simp [bqm,koV,bqa,results,Tryz.results85,go_sem]) rfl ⟨by rw [HP.out],((Below.refl _ _).alloc (Nat.le_refl _) _).alloc (by simp) _⟩
 have HP:=Hq (show aqq pool ((k:Int)+1) tag=none by unfold aqq;rw [if_neg h1,show((k:Int)+1 - 1).toNat=k by omega,hx];simp [ht])
 have hb3:(x.tag !=tag)=true:=by simp [ht]
 clear hx ht
 go_enter Tryz.func85,Tryz.ntmps85
 go_wp2_with fail
 refine bodyPost_ret (v:=bqm none) (by simp [bqm,koV,bqa,results,Tryz.results85,go_sem]) rfl ⟨by rw [HP.out],((Below.refl _ _).alloc (Nat.le_refl _) _).alloc (by simp) _⟩
structure aqQ (w:World) (ok:Nat→Prop) (c:aqj) (A:Option Addr) (cap:Nat) (ifs flds mths:Value):Prop where
 hp:cqX w ok 5 c.pool.length (c.pool.flatMap Ko.cells) (.slice A c.pool.length cap)
 h1:ifs.oneCell'=true
 h2:flds.oneCell'=true
 h3:mths.oneCell'=true
theorem aqQ.below {w w':World} {ok:Nat→Prop} {c:aqj} {A:Option Addr} {cap:Nat} {ifs flds mths:Value} (h:aqQ w ok c A cap ifs flds mths) (hb:Below w.heap.size w w'):aqQ w' ok c A cap ifs flds mths:=⟨h.hp.keep (bqE.of_below hb),h.h1,h.h2,h.h3⟩
def bqF (n:Int):Prop:= -4611686018427387904≤n∧n≤4611686018427387904
def aqg (pool:List Ko) (n:Int):Option ByteArray:=(aqq pool n 1).map (·.text)
def bqk (pool:List Ko) (n:Int):Option ByteArray:=(aqq pool n 7).bind fun k=>aqg pool k.a
def dqc (o:Option ByteArray):Value:= .tuple #[.string (o.getD ⟨#[]⟩), .bool o.isSome]
theorem aqe (c:aqj) (pool ifs flds mths:Value):bqp c pool ifs flds mths= .agg #[.int .i64 c.minor, .int .i64 c.major,pool, .int .i64 c.acc, .int .i64 c.this, .int .i64 c.sup,ifs,flds,mths]:=rfl
theorem bqb (c:aqj) (A:Option Addr) (cap:Nat) (ifs flds mths:Value) (n:Int) (ok:Nat→Prop) (w:World) (h:aqQ w ok c A cap ifs flds mths) (hn:bqF n):
  Calls Tryz.prog 76 #[bqp c (.slice A c.pool.length cap) ifs flds mths, .int .i64 n] w fun e w'=>e= .returned (dqc (aqg c.pool n))∧Below w.heap.size w w':=by
 have H:=Hq (h.below ((Below.refl _ _).alloc (Nat.le_refl _) (.cells #[.int .i64 c.minor, .int .i64 c.major, .slice A c.pool.length cap, .int .i64 c.acc, .int .i64 c.this, .int .i64 c.sup,ifs,flds,mths] 94)))
 have HN:=Hq hn
 have HT:=Hq (show aqg c.pool n=(aqq c.pool n 1).map (·.text) from rfl)
 rcases hx:aqq c.pool n 1 with _|x
 all_goals
  have HX:=Hq hx
  clear h hn hx
  rw [aqe]
  go_enter Tryz.func76,Tryz.ntmps76
  go_wp2_with (go_at_call 85;refine(cqc c A cap ifs flds mths n 1 ok _ H.out.hp H.out.h1 H.out.h2 H.out.h3 HN.out.2 HN.out.1).mono ?_;rw [HX.out];rintro e w1 ⟨rfl,hb⟩;simp only [bqm,koV,Option.getD_none,Option.getD_some,Option.isSome_none,Option.isSome_some,bqa];have HB:=Hq hb;clear hb)
  go_ret2
  refine⟨?_,(((Below.refl _ _).alloc (Nat.le_refl _) _).trans (HB.out.mono (by simp))).alloc (by have:=HB.out.size;simp at this;omega) _⟩
  rw [HT.out,HX.out]
  rfl
theorem cql {pool:List Ko} {n tag:Int} {x:Ko} (h:aqq pool n tag=some x):x∈pool∧x.tag=tag:=by
 unfold aqq at h
 split at h
 ·cases h
 split at h
 ·cases h
 rename_i k hk
 split at h
 ·injection h with h
  subst h
  exact⟨List.mem_of_getElem? hk,by assumption⟩
 cases h
theorem gq5 (c:aqj) (A:Option Addr) (cap:Nat) (ifs flds mths:Value) (n:Int) (ok:Nat→Prop) (w:World) (h:aqQ w ok c A cap ifs flds mths) (hn:bqF n) (hf: ∀k∈c.pool,bqF k.a):
  Calls Tryz.prog 82 #[bqp c (.slice A c.pool.length cap) ifs flds mths, .int .i64 n] w fun e w'=>e= .returned (dqc (bqk c.pool n))∧Below w.heap.size w w':=by
 have H:=Hq (h.below ((Below.refl _ _).alloc (Nat.le_refl _) (.cells #[.int .i64 c.minor, .int .i64 c.major, .slice A c.pool.length cap, .int .i64 c.acc, .int .i64 c.this, .int .i64 c.sup,ifs,flds,mths] 94)))
 have X0:=Hq (aqo w [.int .i64 c.minor, .int .i64 c.major, .slice A c.pool.length cap, .int .i64 c.acc, .int .i64 c.this, .int .i64 c.sup,ifs,flds,mths] 94)
 have HN:=Hq hn
 have HF:=Hq hf
 have HT:=Hq (show bqk c.pool n=(aqq c.pool n 7).bind fun k=>aqg c.pool k.a from rfl)
 rcases hx:aqq c.pool n 7 with _|x
 ·have HX:=Hq hx
  clear h hn hx hf
  rw [aqe]
  go_enter Tryz.func82,Tryz.ntmps82
  go_wp2_with (go_at_call 85;refine(cqc c A cap ifs flds mths n 7 ok _ H.out.hp H.out.h1 H.out.h2 H.out.h3 HN.out.2 HN.out.1).mono ?_;rw [HX.out];rintro e w1 ⟨rfl,hb⟩;simp only [bqm,koV,Option.getD_none,Option.getD_some,Option.isSome_none,Option.isSome_some,bqa];have HB:=Hq hb;clear hb)
  go_ret2
  refine⟨?_,(((Below.refl _ _).alloc (Nat.le_refl _) _).trans (HB.out.mono (by simp))).alloc (by have:=HB.out.size;simp at this;omega) _⟩
  rw [HT.out,HX.out]
  rfl
 have HX:=Hq hx
 have HXF:=Hq (HF.out x (cql hx).1)
 clear h hn hx hf
 rw [aqe]
 go_enter Tryz.func82,Tryz.ntmps82
 go_wp2_with (go_at_call 85;refine(cqc c A cap ifs flds mths n 7 ok _ H.out.hp H.out.h1 H.out.h2 H.out.h3 HN.out.2 HN.out.1).mono ?_;rw [HX.out];rintro e w1 ⟨rfl,hb⟩;simp only [bqm,koV,Option.getD_none,Option.getD_some,Option.isSome_none,Option.isSome_some,bqa];refine aqa ?_)
 have HB:=Hq hb
 have hz:=hb.size
 simp at hz
 have X1:=Hq (X0.out.below hb (by simp))
 have H1:=Hq (H.out.below hb)
 clear hb
 obtain⟨x1,x2,x3,x4,x5,x6,x7,x8,x9,x10,x11,x12⟩:=far w.heap.size w1.heap.size (by omega)
 have c0:=X1.out.cell 0 rfl
 have c1:=X1.out.cell 1 rfl
 have c2:=X1.out.cell 2 rfl
 have c3:=X1.out.cell 3 rfl
 have c4:=X1.out.cell 4 rfl
 have c5:=X1.out.cell 5 rfl
 have c6:=X1.out.cell 6 rfl
 have c7:=X1.out.cell 7 rfl
 have c8:=X1.out.cell 8 rfl
 refine aqb ?_
 go_wp2_with (go_at_call 76;refine aqa ?_)
 refine aqb ?_
 refine(bqb c A cap ifs flds mths x.a ok _ (H1.out.below ((Below.refl _ _).alloc (Nat.le_refl _) _)) HXF.out).mono ?_
 rintro e w2 ⟨rfl,hb2⟩
 simp only [dqc]
 have HB2:=Hq hb2
 clear hb2
 go_wp2_with fail
 go_ret2
 refine⟨?_,((((Below.refl _ _).alloc (Nat.le_refl _) _).trans (HB.out.mono (by simp))).alloc (by omega) _).trans (HB2.out.mono (by simp;omega))⟩
 rw [HT.out,HX.out]
 rfl
end Go.Proofs.YtlcidkiplidamaaGreatDoor
