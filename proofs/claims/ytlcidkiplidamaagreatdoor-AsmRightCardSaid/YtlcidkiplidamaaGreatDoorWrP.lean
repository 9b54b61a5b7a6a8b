/-
  What is written of a class whose numbers fit is read as that class (the plain law).
-/
import Derived.Test.YtlcidkiplidamaaGreatDoorR01
import Derived.Test.YtlcidkiplidamaaGreatDoorR04
set_option linter.unusedSimpArgs false
set_option linter.unusedVariables false
namespace Go.Proofs.YtlcidkiplidamaaGreatDoor
open Go Go.RowKit Lib
def aBe4 (n:Int):List UInt8:= [aByte (n/16777216),aByte (n/65536),aByte (n/256),aByte n]
def In2 (n:Int):Prop:=0≤n∧n≤65535
theorem abyte_nat (n:Int):((aByte n).toNat:Int)=n%256:=by
  unfold aByte
  rw [UInt8.toNat_ofNat']
  omega
theorem be2_num {n:Int} (h:In2 n):beN (aBe2 n)=n.toNat:=by
  have h1:=abyte_nat n
  have h2:=abyte_nat (n/256)
  obtain⟨h3,h4⟩:=h
  simp only [beN,aBe2,List.foldl]
  omega
theorem be4_num {n:Int} (h0:0≤n) (h:n<4294967296):beN (aBe4 n)=n.toNat:=by
  have h1:=abyte_nat n
  have h2:=abyte_nat (n/256)
  have h3:=abyte_nat (n/65536)
  have h4:=abyte_nat (n/16777216)
  simp only [beN,aBe4,List.foldl]
  omega
theorem be4_signed {n:Int} (h0: -2147483648≤n) (h:n<2147483648):int32P (beN (aBe4 n))=n:=by
  have h1:=abyte_nat n
  have h2:=abyte_nat (n/256)
  have h3:=abyte_nat (n/65536)
  have h4:=abyte_nat (n/16777216)
  unfold int32P
  simp only [beN,aBe4,List.foldl]
  split<;>omega
/-- What is written of a constant, a field, a trap, a method, a class. -/
def wKo (k:Ko):List UInt8:=
  aByte k.tag::(if k.tag=1 then aBe2 k.text.size++k.text.data.toList else if k.tag=3 then aBe4 k.num else if k.tag=7 then aBe2 k.a else aBe2 k.a++aBe2 k.b)
def wFld (cv:Int) (f:FieldV):List UInt8:=
  aBe2 f.acc++aBe2 f.name++aBe2 f.desc++(if f.value=0 then aBe2 0 else aBe2 1++aBe2 cv++aBe4 2++aBe2 f.value)
def wTrap (t:TrapV):List UInt8:=aBe2 t.lo++aBe2 t.hi++aBe2 t.tgt++aBe2 t.kind
def wCod (m:MethV):List UInt8:=aBe2 m.stack++aBe2 m.locals++aBe4 m.code.length++m.code++aBe2 m.traps.length++m.traps.flatMap wTrap++aBe2 0
def wMth (cd:Int) (m:MethV):List UInt8:=
  aBe2 m.acc++aBe2 m.name++aBe2 m.desc++(if m.has then aBe2 1++aBe2 cd++aBe4 (12+m.code.length+8*m.traps.length)++wCod m else aBe2 0)
/-- The number of the first constant that is a text. -/
def utfIx (pool:List Ko) (s:List UInt8):Nat:=
  match pool.findIdx? fun k=>decide (k.tag=1)&&k.text.data.toList==s with
  |some i=>i+1
  |none=>0
def wPool (c:ClassV):List UInt8:=aBe4 3405691582++aBe2 c.minor++aBe2 c.major++aBe2 (c.pool.length+1)++c.pool.flatMap wKo
def wHead (c:ClassV):List UInt8:=aBe2 c.acc++aBe2 c.this++aBe2 c.sup++aBe2 c.ifs.length++c.ifs.flatMap aBe2
def wMem (c:ClassV):List UInt8:=
  aBe2 c.flds.length++c.flds.flatMap (wFld (utfIx c.pool constantValueS.data.toList))++aBe2 c.mths.length++c.mths.flatMap (wMth (utfIx c.pool codeS.data.toList))++aBe2 0
def wCls (c:ClassV):List UInt8:=wPool c++wHead c++wMem c
def KoFit (k:Ko):Prop:=
  (k.tag=1∧k.text.size≤65535∧k.num=0∧k.a=0∧k.b=0)∨
  (k.tag=3∧k.text=⟨#[]⟩∧ -2147483648≤k.num∧k.num<2147483648∧k.a=0∧k.b=0)∨
  (k.tag=7∧k.text=⟨#[]⟩∧k.num=0∧In2 k.a∧k.b=0)∨
  ((k.tag=9∨k.tag=10∨k.tag=11∨k.tag=12)∧k.text=⟨#[]⟩∧k.num=0∧In2 k.a∧In2 k.b)
def FldFit (pool:List Ko) (f:FieldV):Prop:=In2 f.acc∧In2 f.name∧In2 f.desc∧In2 f.value∧(f.value≠0→utfIx pool constantValueS.data.toList≠0)
def TrapFit (t:TrapV):Prop:=In2 t.lo∧In2 t.hi∧In2 t.tgt∧In2 t.kind
structure MthFit (pool:List Ko) (m:MethV):Prop where
  acc:In2 m.acc
  name:In2 m.name
  desc:In2 m.desc
  stack:In2 m.stack
  locals:In2 m.locals
  ncode:m.code.length≤4096
  ntraps:m.traps.length≤64
  traps: ∀t∈m.traps,TrapFit t
  none:m.has=false→m.stack=0∧m.locals=0∧m.code= []∧m.traps= []
  named:m.has=true→utfIx pool codeS.data.toList≠0
  some:m.has=true→0<m.code.length
structure ClsFit (c:ClassV):Prop where
  minor:In2 c.minor
  major:In2 c.major
  acc:In2 c.acc
  this:In2 c.this
  sup:In2 c.sup
  npool:c.pool.length≤1024
  nifs:c.ifs.length≤64
  nflds:c.flds.length≤64
  nmths:c.mths.length≤64
  pool: ∀k∈c.pool,KoFit k
  ifs: ∀n∈c.ifs,In2 n
  flds: ∀f∈c.flds,FldFit c.pool f
  mths: ∀m∈c.mths,MthFit c.pool m
theorem AtL.le {l:List UInt8} {p:Nat} {b r:List UInt8} (h:AtL l p (b++r)):p+b.length≤l.length:=by
  obtain⟨pre,e,hp⟩:=h
  rw [e,List.length_append,List.length_append,hp]
  omega
theorem bytes_in {l:List UInt8} {p most nm:Nat} {pool:List Ko} (b:List UInt8) {r:List UInt8} {n:Nat} (h:AtL l p (b++r)) (hn:b.length=n) (hm:p+n≤most):
    bytesP l n ⟨p,most,nm,pool⟩= .ok (b,⟨p+n,most,nm,pool⟩):=by
  have hle:=h.le
  obtain⟨pre,e,hp⟩:=h
  unfold bytesP
  rw [if_neg (by show¬l.length<p+n;omega),if_neg (by show¬most<p+n;omega)]
  show Except.ok ((l.drop p).take n,_)=_
  rw [e, ←hp, ←hn,List.drop_left,List.take_left]
theorem num_in {l:List UInt8} {p most nm:Nat} {pool:List Ko} (b:List UInt8) {r:List UInt8} {n:Nat} (h:AtL l p (b++r)) (hn:b.length=n) (hm:p+n≤most):
    numP l n ⟨p,most,nm,pool⟩= .ok (beN b,⟨p+n,most,nm,pool⟩):=by
  unfold numP
  rw [bytes_in b h hn hm,Rx.bind_ok]
theorem two_in {l:List UInt8} {p most nm:Nat} {pool:List Ko} {n:Int} {r:List UInt8} (h:AtL l p (aBe2 n++r)) (hn:In2 n) (hm:p+2≤most):
    numP l 2 ⟨p,most,nm,pool⟩= .ok (n.toNat,⟨p+2,most,nm,pool⟩)∧AtL l (p+2) r:=by
  rw [num_in (n:=2) (aBe2 n) h rfl hm,be2_num hn]
  exact⟨rfl,h.next⟩
theorem four_in {l:List UInt8} {p most nm:Nat} {pool:List Ko} {n:Int} {r:List UInt8} (h:AtL l p (aBe4 n++r)) (h0:0≤n) (hn:n<4294967296) (hm:p+4≤most):
    numP l 4 ⟨p,most,nm,pool⟩= .ok (n.toNat,⟨p+4,most,nm,pool⟩)∧AtL l (p+4) r:=by
  rw [num_in (n:=4) (aBe4 n) h rfl hm,be4_num h0 hn]
  exact⟨rfl,h.next⟩
theorem in2_nat {n:Int} (h:In2 n):(n.toNat:Int)=n:=by
  have:=h.1
  omega
theorem ko_in {l:List UInt8} {p most nm:Nat} {pool:List Ko} {k:Ko} {r:List UInt8} (hk:KoFit k) (h:AtL l p (wKo k++r)) (hm:l.length≤most):
    koP l ⟨p,most,nm,pool⟩= .ok (k,⟨p+(wKo k).length,most,nm,pool⟩):=by
  have hle:=h.le
  have hb: ∀n:Int,0≤n→n≤255→beN [aByte n]=n.toNat:=by
    intro n h0 h1
    have:=abyte_nat n
    simp only [beN,List.foldl]
    omega
  obtain⟨tag,text,num,a,b⟩:=k
  unfold koP
  rcases hk with⟨h1,h2,h3,h4,h5⟩ | ⟨h1,h2,h3,h4,h5,h6⟩ | ⟨h1,h2,h3,h4,h5⟩ | ⟨h1,h2,h3,h4,h5⟩
  · dsimp only at h1 h2 h3 h4 h5
    subst h1 h3 h4 h5
    have g:AtL l p ([aByte 1]++(aBe2 text.size++(text.data.toList++r))):=by simpa [wKo] using h
    have hsz:text.data.toList.length=text.size:=by simp
    have hl:(wKo ⟨1,text,0,0,0⟩).length=3+text.size:=by simp [wKo,aBe2];omega
    rw [hl] at hle⊢
    rw [num_in (n:=1) [aByte 1] g rfl (by omega),hb 1 (by omega) (by omega),Rx.bind_ok,if_pos (by rfl)]
    obtain⟨e1,g2⟩:=two_in (pool:=pool) (nm:=nm) (most:=most) g.next ⟨by omega,by omega⟩ (by show p+1+2≤most;omega)
    rw [show p+ [aByte 1].length=p+1 from rfl] at e1 g2
    rw [e1,Rx.bind_ok,bytes_in text.data.toList g2 (by rw [hsz];omega) (by omega),Rx.bind_ok]
    have:p+1+2+((text.size:Int)).toNat=p+(3+text.size):=by omega
    rw [this]
  · dsimp only at h1 h2 h3 h4 h5 h6
    subst h1 h2 h5 h6
    have g:AtL l p ([aByte 3]++(aBe4 num++r)):=by simpa [wKo] using h
    have hl:(wKo ⟨3,⟨#[]⟩,num,0,0⟩).length=5:=by simp [wKo,aBe4]
    rw [hl] at hle⊢
    rw [num_in (n:=1) [aByte 3] g rfl (by omega),hb 3 (by omega) (by omega),Rx.bind_ok,if_neg (by decide),if_pos (by rfl),num_in (p:=p+1) (n:=4) (aBe4 num) g.next rfl (by show p+1+4≤most;omega),Rx.bind_ok,be4_signed h3 h4]
  · dsimp only at h1 h2 h3 h4 h5
    subst h1 h2 h3 h5
    have g:AtL l p ([aByte 7]++(aBe2 a++r)):=by simpa [wKo] using h
    have hl:(wKo ⟨7,⟨#[]⟩,0,a,0⟩).length=3:=by simp [wKo,aBe2]
    rw [hl] at hle⊢
    rw [num_in (n:=1) [aByte 7] g rfl (by omega),hb 7 (by omega) (by omega),Rx.bind_ok,if_neg (by decide),if_neg (by decide),if_pos (by rfl),num_in (p:=p+1) (n:=2) (aBe2 a) g.next rfl (by show p+1+2≤most;omega),Rx.bind_ok,be2_num h4,in2_nat h4]
  · dsimp only at h1 h2 h3 h4 h5
    subst h2 h3
    have ht:9≤tag∧tag≤12:=by omega
    have hkl:wKo ⟨tag,⟨#[]⟩,0,a,b⟩= [aByte tag]++(aBe2 a++aBe2 b):=by
      unfold wKo
      rw [if_neg (by show¬tag=1;omega),if_neg (by show¬tag=3;omega),if_neg (by show¬tag=7;omega)]
      rfl
    have g:AtL l p ([aByte tag]++(aBe2 a++(aBe2 b++r))):=by
      rw [hkl] at h
      simpa using h
    have hl:(wKo ⟨tag,⟨#[]⟩,0,a,b⟩).length=5:=by rw [hkl];simp [aBe2]
    rw [hl] at hle⊢
    rw [num_in (n:=1) [aByte tag] g rfl (by omega),hb tag (by omega) (by omega),Rx.bind_ok,if_neg (by omega),if_neg (by omega),if_neg (by omega),if_pos (by omega)]
    have g1:AtL l (p+1) (aBe2 a++(aBe2 b++r)):=g.next
    rw [num_in (n:=2) (aBe2 a) g1 rfl (by show p+1+2≤most;omega),Rx.bind_ok,num_in (p:=p+1+2) (n:=2) (aBe2 b) g1.next rfl (by show p+1+2+2≤most;omega),Rx.bind_ok,be2_num h4,be2_num h5,in2_nat h4,in2_nat h5]
    have:((tag.toNat:Nat):Int)=tag:=by omega
    rw [this]
theorem rep_in {α:Type} {l:List UInt8} {most:Nat} {pool:List Ko} (f:Rs→Rx α) (g:α→List UInt8): ∀(xs:List α) (p nm:Nat) (r:List UInt8),
    (∀x∈xs, ∀(p nm:Nat) (r:List UInt8),AtL l p (g x++r)→p+(g x).length≤most→ ∃nm',f ⟨p,most,nm,pool⟩= .ok (x,⟨p+(g x).length,most,nm',pool⟩))→AtL l p (xs.flatMap g++r)→p+(xs.flatMap g).length≤most→
    ∃nm',repP f xs.length ⟨p,most,nm,pool⟩= .ok (xs,⟨p+(xs.flatMap g).length,most,nm',pool⟩)
  | [],p,nm,r,hf,h,hm=> ⟨nm,rfl⟩
  |x::xs,p,nm,r,hf,h,hm=>by
    rw [List.flatMap_cons,List.append_assoc] at h
    rw [List.flatMap_cons,List.length_append] at hm
    obtain⟨n1,e1⟩:=hf x (by simp) p nm _ h (by omega)
    obtain⟨n2,e2⟩:=rep_in f g xs _ n1 r (fun y hy=>hf y (by simp [hy])) h.next (by omega)
    refine⟨n2, ?_⟩
    rw [List.length_cons,repP,e1,Rx.bind_ok,e2,Rx.bind_ok,List.flatMap_cons,List.length_append,Nat.add_assoc]
theorem utf_ix {pool:List Ko} {s:List UInt8} (h:utfIx pool s≠0):utfIx pool s≤pool.length∧ ∃k,pool[utfIx pool s - 1]?=some k∧k.tag=1∧k.text.data.toList=s:=by
  unfold utfIx at h⊢
  cases hf:pool.findIdx? fun k=>decide (k.tag=1)&&k.text.data.toList==s with
  |none=>rw [hf] at h;exact absurd rfl h
  |some i=>
    obtain⟨h1,h2,h3⟩:=List.findIdx?_eq_some_iff_getElem.1 hf
    refine⟨h1,pool[i], ?_, ?_⟩
    · show pool[i+1 - 1]?=_
      rw [Nat.add_sub_cancel,List.getElem?_eq_getElem h1]
    · simpa using h2
theorem name_in {l:List UInt8} {p most nm:Nat} {pool:List Ko} {s r:List UInt8} (hu:utfIx pool s≠0) (hp:pool.length≤1024) (h:AtL l p (aBe2 (utfIx pool s)++r)) (hm:p+2≤most):
    ∃t:ByteArray,t.data.toList=s∧nameP l ⟨p,most,nm,pool⟩= .ok ((p,t),⟨p+2,most,nm,pool⟩)∧AtL l (p+2) r:=by
  obtain⟨h1,k,h2,h3,h4⟩:=utf_ix hu
  obtain⟨e1,g1⟩:=two_in (pool:=pool) (nm:=nm) (most:=most) h ⟨by omega,by omega⟩ hm
  refine⟨k.text,h4, ?_,g1⟩
  unfold nameP
  rw [e1,Rx.bind_ok]
  rw [show((utfIx pool s:Nat):Int).toNat=utfIx pool s by omega,if_neg hu]
  show(match pool[utfIx pool s - 1]? with|none=>_|some k=>_)=_
  rw [h2]
  show(if k.tag=1 then _ else _)=_
  rw [if_pos h3]
theorem fld_in {l:List UInt8} {p most nm:Nat} {pool:List Ko} {f:FieldV} {r:List UInt8} (hp:pool.length≤1024) (hf:FldFit pool f) (h:AtL l p (wFld (utfIx pool constantValueS.data.toList) f++r)) (hm:l.length≤most):
    fieldP l ⟨p,most,nm,pool⟩= .ok (f,⟨p+(wFld (utfIx pool constantValueS.data.toList) f).length,most,nm,pool⟩):=by
  have hle:=h.le
  obtain⟨acc,name,desc,value⟩:=f
  obtain⟨h1,h2,h3,h4,h5⟩:=hf
  dsimp only at h1 h2 h3 h4 h5
  unfold fieldP
  by_cases hv:value=0
  · subst hv
    have g:AtL l p (aBe2 acc++(aBe2 name++(aBe2 desc++(aBe2 0++r)))):=by simpa [wFld] using h
    have hl:(wFld (utfIx pool constantValueS.data.toList) ⟨acc,name,desc,0⟩).length=8:=by simp [wFld,aBe2]
    rw [hl] at hle⊢
    obtain⟨e1,g1⟩:=two_in (pool:=pool) (nm:=nm) (most:=most) g h1 (by omega)
    obtain⟨e2,g2⟩:=two_in (pool:=pool) (nm:=nm) (most:=most) g1 h2 (by omega)
    obtain⟨e3,g3⟩:=two_in (pool:=pool) (nm:=nm) (most:=most) g2 h3 (by omega)
    obtain⟨e4,g4⟩:=two_in (pool:=pool) (nm:=nm) (most:=most) g3 ⟨by omega,by omega⟩ (by omega)
    rw [e1,Rx.bind_ok,e2,Rx.bind_ok,e3,Rx.bind_ok]
    unfold attrsP
    rw [e4,Rx.bind_ok]
    show attrP _ _ _ 0 _ _ _=_
    rw [attrP,in2_nat h1,in2_nat h2,in2_nat h3]
  · have g:AtL l p (aBe2 acc++(aBe2 name++(aBe2 desc++(aBe2 1++(aBe2 (utfIx pool constantValueS.data.toList)++(aBe4 2++(aBe2 value++r))))))):=by simpa [wFld,hv] using h
    have hl:(wFld (utfIx pool constantValueS.data.toList) ⟨acc,name,desc,value⟩).length=16:=by simp [wFld,aBe2,aBe4,hv]
    rw [hl] at hle⊢
    obtain⟨e1,g1⟩:=two_in (pool:=pool) (nm:=nm) (most:=most) g h1 (by omega)
    obtain⟨e2,g2⟩:=two_in (pool:=pool) (nm:=nm) (most:=most) g1 h2 (by omega)
    obtain⟨e3,g3⟩:=two_in (pool:=pool) (nm:=nm) (most:=most) g2 h3 (by omega)
    obtain⟨e4,g4⟩:=two_in (pool:=pool) (nm:=nm) (most:=most) g3 ⟨by omega,by omega⟩ (by omega)
    obtain⟨t,ht,e5,g5⟩:=name_in (nm:=nm) (most:=most) (h5 hv) hp g4 (by omega)
    obtain⟨e6,g6⟩:=four_in (pool:=pool) (nm:=nm) (most:=most) g5 (by omega) (by omega) (by omega)
    obtain⟨e7,g7⟩:=two_in (pool:=pool) (nm:=nm) (most:=most) g6 h4 (by omega)
    rw [e1,Rx.bind_ok,e2,Rx.bind_ok,e3,Rx.bind_ok]
    unfold attrsP
    rw [e4,Rx.bind_ok]
    show attrP _ _ _ (0+1) _ _ _=_
    have hw:some constantValueL=some t.toList:=by
      rw [Lib.toList_data,ht]
      rfl
    rw [attrP,e5,Rx.bind_ok,if_neg (by simp),e6,Rx.bind_ok,if_pos hw]
    show Rx.bind (if 2≠2 then _ else _) _=_
    rw [if_neg (by simp),e7,Rx.bind_ok,Rx.bind_ok,attrP,in2_nat h1,in2_nat h2,in2_nat h3,in2_nat h4]
theorem trap_in {l:List UInt8} {p most nm:Nat} {pool:List Ko} {t:TrapV} {r:List UInt8} (ht:TrapFit t) (h:AtL l p (wTrap t++r)) (hm:p+8≤most):
    trapP l ⟨p,most,nm,pool⟩= .ok (t,⟨p+(wTrap t).length,most,nm,pool⟩):=by
  obtain⟨lo,hi,tg,kd⟩:=t
  obtain⟨h1,h2,h3,h4⟩:=ht
  dsimp only at h1 h2 h3 h4
  have g:AtL l p (aBe2 lo++(aBe2 hi++(aBe2 tg++(aBe2 kd++r)))):=by simpa [wTrap] using h
  obtain⟨e1,g1⟩:=two_in (pool:=pool) (nm:=nm) (most:=most) g h1 (by omega)
  obtain⟨e2,g2⟩:=two_in (pool:=pool) (nm:=nm) (most:=most) g1 h2 (by omega)
  obtain⟨e3,g3⟩:=two_in (pool:=pool) (nm:=nm) (most:=most) g2 h3 (by omega)
  obtain⟨e4,g4⟩:=two_in (pool:=pool) (nm:=nm) (most:=most) g3 h4 (by omega)
  unfold trapP
  rw [e1,Rx.bind_ok,e2,Rx.bind_ok,e3,Rx.bind_ok,e4,Rx.bind_ok,in2_nat h1,in2_nat h2,in2_nat h3,in2_nat h4]
  rfl
theorem traps_len: ∀l:List TrapV,(l.flatMap wTrap).length=8*l.length
  | []=>rfl
  |t::l=>by
    rw [List.flatMap_cons,List.length_append,traps_len l]
    simp [wTrap,aBe2]
    omega
theorem cod_len (m:MethV):(wCod m).length=12+m.code.length+8*m.traps.length:=by
  unfold wCod
  simp only [List.length_append,traps_len]
  simp [aBe2,aBe4]
  omega
theorem skip_in {l:List UInt8} {p most nm:Nat} {pool:List Ko} {r:List UInt8} (h:AtL l p (aBe2 0++r)) (hm:p+2≤most):
    skipP l ⟨p,most,nm,pool⟩= .ok ((),⟨p+2,most,nm,pool⟩):=by
  obtain⟨e1,g1⟩:=two_in (pool:=pool) (nm:=nm) (most:=most) h ⟨by omega,by omega⟩ hm
  unfold skipP attrsP
  rw [e1,Rx.bind_ok]
  show attrP _ _ _ 0 _ _ _=_
  rw [attrP]
theorem count_in {l:List UInt8} {p most nm k:Nat} {pool:List Ko} {n:Int} {r:List UInt8} (h:AtL l p (aBe2 n++r)) (hn:In2 n) (hk:n.toNat≤k) (hm:p+2≤most):
    countP l k ⟨p,most,nm,pool⟩= .ok (n.toNat,⟨p+2,most,nm,pool⟩)∧AtL l (p+2) r:=by
  obtain⟨e1,g1⟩:=two_in (pool:=pool) (nm:=nm) (most:=most) h hn hm
  refine⟨?_,g1⟩
  unfold countP
  rw [e1,Rx.bind_ok,if_neg (by omega)]
theorem cod_in {l:List UInt8} {p most nm:Nat} {pool pl:List Ko} {m:MethV} {r:List UInt8} (hm:MthFit pl m) (h:AtL l p (wCod m++r)) (at' long:Nat) (hlong:long=(wCod m).length) (m0:MethV) (h0:{ m0 with has:=true,stack:=m.stack,locals:=m.locals,code:=m.code,traps:=m.traps }=m):
    ∃nm',codeP l m0 at' long ⟨p,most,nm,pool⟩= .ok (m,⟨p+long,4611686018427387904,nm',pool⟩):=by
  rw [cod_len] at hlong
  have h1:=hm.ncode
  have h2:=hm.ntraps
  have g:AtL l p (aBe2 m.stack++(aBe2 m.locals++(aBe4 m.code.length++(m.code++(aBe2 m.traps.length++(m.traps.flatMap wTrap++(aBe2 0++r))))))):=by simpa [wCod] using h
  obtain⟨e1,g1⟩:=two_in (pool:=pool) (nm:=at') (most:=p+long) g hm.stack (by omega)
  obtain⟨e2,g2⟩:=two_in (pool:=pool) (nm:=at') (most:=p+long) g1 hm.locals (by omega)
  obtain⟨e3,g3⟩:=four_in (pool:=pool) (nm:=at') (most:=p+long) g2 (by omega) (by omega) (by omega)
  have e4:=bytes_in (pool:=pool) (nm:=at') (most:=p+long) m.code g3 rfl (by omega)
  obtain⟨e5,g5⟩:=count_in (pool:=pool) (nm:=at') (most:=p+long) (k:=64) g3.next ⟨by omega,by omega⟩ (by omega) (by omega)
  obtain⟨n6,e6⟩:=rep_in (pool:=pool) (most:=p+long) (trapP l) wTrap m.traps _ at' (aBe2 0++r) (fun t ht p' nm' r' hr hp=> ⟨nm',trap_in (hm.traps t ht) hr (by simpa [wTrap,aBe2] using hp)⟩) g5 (by rw [traps_len];omega)
  have g6:=g5.next
  rw [traps_len] at e6 g6
  have e7:=skip_in (pool:=pool) (nm:=n6) (most:=p+long) g6 (by omega)
  refine⟨n6, ?_⟩
  unfold codeP
  dsimp only
  rw [e1,Rx.bind_ok,e2,Rx.bind_ok,e3,Rx.bind_ok,if_neg (by omega)]
  rw [show((m.code.length:Nat):Int).toNat=m.code.length by omega,e4,Rx.bind_ok,e5,Rx.bind_ok]
  rw [show((m.traps.length:Nat):Int).toNat=m.traps.length by omega,e6,Rx.bind_ok,e7,Rx.bind_ok]
  dsimp only
  rw [if_neg (by omega),in2_nat hm.stack,in2_nat hm.locals,h0,show p+2+2+4+m.code.length+2+8*m.traps.length+2=p+long by omega]
theorem mth_in {l:List UInt8} {p nm:Nat} {pool:List Ko} {m:MethV} {r:List UInt8} (hp:pool.length≤1024) (hm:MthFit pool m) (h:AtL l p (wMth (utfIx pool codeS.data.toList) m++r)) (hl:l.length≤65536):
    ∃nm',methP l ⟨p,4611686018427387904,nm,pool⟩= .ok (m,⟨p+(wMth (utfIx pool codeS.data.toList) m).length,4611686018427387904,nm',pool⟩):=by
  have hle:=h.le
  unfold methP
  by_cases hv:m.has=true
  · have g:AtL l p (aBe2 m.acc++(aBe2 m.name++(aBe2 m.desc++(aBe2 1++(aBe2 (utfIx pool codeS.data.toList)++(aBe4 (12+m.code.length+8*m.traps.length)++(wCod m++r))))))):=by simpa [wMth,hv] using h
    have hlen:(wMth (utfIx pool codeS.data.toList) m).length=14+(wCod m).length:=by simp [wMth,aBe2,aBe4,hv];omega
    rw [hlen] at hle⊢
    rw [cod_len] at hle
    have h1:=hm.ncode
    have h2:=hm.ntraps
    obtain⟨e1,g1⟩:=two_in (pool:=pool) (nm:=nm) (most:=4611686018427387904) g hm.acc (by omega)
    obtain⟨e2,g2⟩:=two_in (pool:=pool) (nm:=nm) (most:=4611686018427387904) g1 hm.name (by omega)
    obtain⟨e3,g3⟩:=two_in (pool:=pool) (nm:=nm) (most:=4611686018427387904) g2 hm.desc (by omega)
    obtain⟨e4,g4⟩:=two_in (pool:=pool) (nm:=nm) (most:=4611686018427387904) g3 ⟨by omega,by omega⟩ (by omega)
    obtain⟨t,ht,e5,g5⟩:=name_in (nm:=nm) (most:=4611686018427387904) (hm.named hv) hp g4 (by omega)
    obtain⟨e6,g6⟩:=four_in (pool:=pool) (nm:=nm) (most:=4611686018427387904) g5 (by omega) (by omega) (by omega)
    obtain⟨nm',e7⟩:=cod_in (most:=4611686018427387904) (nm:=nm) (pool:=pool) hm g6 (p+2+2+2+2) (12+(m.code.length:Int)+8*(m.traps.length:Int)).toNat (by rw [cod_len];omega) ⟨m.acc,m.name,m.desc,false,0,0, [], []⟩ (by rw [←hv])
    refine⟨nm', ?_⟩
    rw [e1,Rx.bind_ok,e2,Rx.bind_ok,e3,Rx.bind_ok]
    unfold attrsP
    rw [e4,Rx.bind_ok]
    show attrP _ _ _ (0+1) _ _ _=_
    have hw:some codeL=some t.toList:=by
      rw [Lib.toList_data,ht]
      rfl
    rw [attrP,e5,Rx.bind_ok,if_neg (by simp),e6,Rx.bind_ok,if_pos hw,in2_nat hm.acc,in2_nat hm.name,in2_nat hm.desc]
    dsimp only
    rw [e7,Rx.bind_ok,attrP]
    rw [cod_len,show p+2+2+2+2+2+4+(12+(m.code.length:Int)+8*(m.traps.length:Int)).toNat=p+(14+(12+m.code.length+8*m.traps.length)) by omega]
  · have hv':m.has=false:=by simpa using hv
    obtain⟨q1,q2,q3,q4⟩:=hm.none hv'
    have g:AtL l p (aBe2 m.acc++(aBe2 m.name++(aBe2 m.desc++(aBe2 0++r)))):=by simpa [wMth,hv'] using h
    have hlen:(wMth (utfIx pool codeS.data.toList) m).length=8:=by simp [wMth,aBe2,hv']
    rw [hlen] at hle⊢
    obtain⟨e1,g1⟩:=two_in (pool:=pool) (nm:=nm) (most:=4611686018427387904) g hm.acc (by omega)
    obtain⟨e2,g2⟩:=two_in (pool:=pool) (nm:=nm) (most:=4611686018427387904) g1 hm.name (by omega)
    obtain⟨e3,g3⟩:=two_in (pool:=pool) (nm:=nm) (most:=4611686018427387904) g2 hm.desc (by omega)
    obtain⟨e4,g4⟩:=two_in (pool:=pool) (nm:=nm) (most:=4611686018427387904) g3 ⟨by omega,by omega⟩ (by omega)
    refine⟨nm, ?_⟩
    rw [e1,Rx.bind_ok,e2,Rx.bind_ok,e3,Rx.bind_ok]
    unfold attrsP
    rw [e4,Rx.bind_ok]
    show attrP _ _ _ 0 _ _ _=_
    rw [attrP,in2_nat hm.acc,in2_nat hm.name,in2_nat hm.desc]
    obtain⟨acc,name,desc,has,stack,locals,code,traps⟩:=m
    dsimp only at q1 q2 q3 q4 hv'
    rw [hv',q1,q2,q3,q4]
theorem ifs_back: ∀{l:List Int},(∀n∈l,In2 n)→(l.map Int.toNat).flatMap (fun n:Nat=>aBe2 n)=l.flatMap aBe2∧(l.map Int.toNat).map Int.ofNat=l
  | [],_=> ⟨rfl,rfl⟩
  |n::l,h=>by
    have hn:=in2_nat (h n (by simp))
    obtain⟨h1,h2⟩:=ifs_back (l:=l) fun q hq=>h q (by simp [hq])
    rw [List.map_cons,List.flatMap_cons,List.flatMap_cons,List.map_cons,h1,h2,hn]
    exact⟨rfl,by rw [show Int.ofNat n.toNat=n from hn]⟩
theorem cls_in {c:ClassV} (h:ClsFit c) (hl:(wCls c).length≤65536):readP (wCls c)= .ok c:=by
  have hnp:=h.npool
  have hni:=h.nifs
  have hnf:=h.nflds
  have hnm:=h.nmths
  obtain⟨k1,k2⟩:=ifs_back h.ifs
  have g:AtL (wCls c) 0 (aBe4 3405691582++(aBe2 c.minor++(aBe2 c.major++(aBe2 (c.pool.length+1)++(c.pool.flatMap wKo++(aBe2 c.acc++(aBe2 c.this++(aBe2 c.sup++(aBe2 c.ifs.length++
      (c.ifs.flatMap aBe2++(aBe2 c.flds.length++(c.flds.flatMap (wFld (utfIx c.pool constantValueS.data.toList))++(aBe2 c.mths.length++(c.mths.flatMap (wMth (utfIx c.pool codeS.data.toList))++(aBe2 0++ []))))))))))))))):=⟨[],by simp [wCls,wPool,wHead,wMem],rfl⟩
  have hM: ∀{p:Nat} {b r:List UInt8},AtL (wCls c) p (b++r)→p+b.length≤4611686018427387904:=fun hg=>by have:=hg.le;omega
  obtain⟨e0,g0⟩:=four_in (pool:= []) (nm:=0) (most:=4611686018427387904) g (by omega) (by omega) (by omega)
  obtain⟨e1,g1⟩:=two_in (pool:= []) (nm:=0) (most:=4611686018427387904) g0 h.minor (by omega)
  obtain⟨e2,g2⟩:=two_in (pool:= []) (nm:=0) (most:=4611686018427387904) g1 h.major (by omega)
  obtain⟨e3,g3⟩:=count_in (pool:= []) (nm:=0) (most:=4611686018427387904) (k:=1025) g2 ⟨by omega,by omega⟩ (by omega) (by omega)
  obtain⟨n4,e4⟩:=rep_in (pool:= []) (most:=4611686018427387904) (koP (wCls c)) wKo c.pool _ 0 _ (fun k hk p nm r hr hq=> ⟨nm,ko_in (h.pool k hk) hr (by omega)⟩) g3 (hM g3)
  have g4:=g3.next
  have z4:=g4.le
  obtain⟨p4,hp4⟩: ∃p,p=0+4+2+2+2+(c.pool.flatMap wKo).length:=⟨_,rfl⟩
  rw [←hp4] at e4 g4 z4
  obtain⟨e5,g5⟩:=two_in (pool:=c.pool) (nm:=n4) (most:=4611686018427387904) g4 h.acc (by omega)
  obtain⟨e6,g6⟩:=two_in (pool:=c.pool) (nm:=n4) (most:=4611686018427387904) g5 h.this (by omega)
  obtain⟨e7,g7⟩:=two_in (pool:=c.pool) (nm:=n4) (most:=4611686018427387904) g6 h.sup (by omega)
  obtain⟨e8,g8⟩:=count_in (pool:=c.pool) (nm:=n4) (most:=4611686018427387904) (k:=64) g7 ⟨by omega,by omega⟩ (by omega) (by omega)
  rw [←k1] at g8
  obtain⟨n9,e9⟩:=rep_in (pool:=c.pool) (most:=4611686018427387904) (numP (wCls c) 2) (fun n:Nat=>aBe2 n) (c.ifs.map Int.toNat) _ n4 _ (fun k hk p nm r hr hq=> ⟨nm,by
    obtain⟨n,hn,rfl⟩:=List.mem_map.1 hk
    have hn2:=in2_nat (h.ifs n hn)
    rw [hn2] at hr hq⊢
    rw [(two_in hr (h.ifs n hn) hq).1]
    rfl⟩) g8 (hM g8)
  have g9:=g8.next
  have z9:=g9.le
  obtain⟨p9,hp9⟩: ∃p,p=p4+2+2+2+2+((c.ifs.map Int.toNat).flatMap fun n:Nat=>aBe2 n).length:=⟨_,rfl⟩
  rw [←hp9] at e9 g9 z9
  obtain⟨e10,g10⟩:=count_in (pool:=c.pool) (nm:=n9) (most:=4611686018427387904) (k:=64) g9 ⟨by omega,by omega⟩ (by omega) (by omega)
  obtain⟨n11,e11⟩:=rep_in (pool:=c.pool) (most:=4611686018427387904) (fieldP (wCls c)) (wFld (utfIx c.pool constantValueS.data.toList)) c.flds _ n9 _ (fun k hk p nm r hr hq=> ⟨nm,fld_in hnp (h.flds k hk) hr (by omega)⟩) g10 (hM g10)
  have g11:=g10.next
  have z11:=g11.le
  obtain⟨p11,hp11⟩: ∃p,p=p9+2+(c.flds.flatMap (wFld (utfIx c.pool constantValueS.data.toList))).length:=⟨_,rfl⟩
  rw [←hp11] at e11 g11 z11
  obtain⟨e12,g12⟩:=count_in (pool:=c.pool) (nm:=n11) (most:=4611686018427387904) (k:=64) g11 ⟨by omega,by omega⟩ (by omega) (by omega)
  obtain⟨n13,e13⟩:=rep_in (pool:=c.pool) (most:=4611686018427387904) (methP (wCls c)) (wMth (utfIx c.pool codeS.data.toList)) c.mths _ n11 _ (fun k hk p nm r hr hq=>mth_in hnp (h.mths k hk) hr hl) g12 (hM g12)
  have g13:=g12.next
  have z13:=g13.le
  obtain⟨p13,hp13⟩: ∃p,p=p11+2+(c.mths.flatMap (wMth (utfIx c.pool codeS.data.toList))).length:=⟨_,rfl⟩
  rw [←hp13] at e13 g13 z13
  have e14:=skip_in (pool:=c.pool) (nm:=n13) (most:=4611686018427387904) g13 (by omega)
  have hend:(wCls c).length=p13+2:=by
    obtain⟨pre,e,hp⟩:=g13
    rw [e,List.length_append,hp]
    rfl
  unfold readP
  rw [if_neg (by omega)]
  unfold classP
  rw [e0,Rx.bind_ok,if_neg (by decide),e1,Rx.bind_ok,e2,Rx.bind_ok,e3,Rx.bind_ok,if_neg (by omega)]
  rw [show((c.pool.length:Int)+1).toNat - 1=c.pool.length by omega,e4,Rx.bind_ok]
  unfold clsB
  dsimp only
  rw [e5,Rx.bind_ok,e6,Rx.bind_ok,e7,Rx.bind_ok,e8,Rx.bind_ok]
  rw [show((c.ifs.length:Nat):Int).toNat=(c.ifs.map Int.toNat).length by rw [List.length_map];omega,e9,Rx.bind_ok]
  unfold clsC
  rw [e10,Rx.bind_ok,show((c.flds.length:Nat):Int).toNat=c.flds.length by omega,e11,Rx.bind_ok]
  unfold clsD
  rw [e12,Rx.bind_ok,show((c.mths.length:Nat):Int).toNat=c.mths.length by omega,e13,Rx.bind_ok]
  unfold clsE
  rw [e14,Rx.bind_ok,if_neg (by show¬p13+2<_;omega),k2,in2_nat h.minor,in2_nat h.major,in2_nat h.acc,in2_nat h.this,in2_nat h.sup]
end Go.Proofs.YtlcidkiplidamaaGreatDoor
