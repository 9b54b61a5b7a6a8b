/-
  What the laws rest on, part 1: walks of the program's functions and plain laws. Conditions: none but those that each theorem names.
-/
import Derived.Test.YtlcidkiplidamaaGreatDoorR00
import Derived.Deep.AppendLies
import Derived.Deep.RegionLaw
import Derived.Shelf.Small.Utf8
import Derived.Shelf.Small.Strs
import Derived.Shelf.Strings.Search1
import Derived.Shelf.Strings.Search2
import Derived.Shelf.Strings.Search3
import Derived.Shelf.Strings.Count
import Derived.Shelf.LaysM
import Derived.Shelf.Strings.Shaped
import Derived.Shelf.Strings.Prefix
import Derived.Shelf.Strings.Runes
import Derived.Shelf.Unicode.DecodeSlow
import Derived.Test.YtlcidkiplidamaaGreatDoorProg
import Derived.Laws.RangeAny
set_option linter.unusedSimpArgs false
set_option linter.unusedVariables false
namespace Go.Proofs.YtlcidkiplidamaaGreatDoor
open Go Go.RowKit Lib Go.Maps
structure But (B:Nat) (S:List Nat) (w w':World):Prop where
 os:w'.os=w.os
 tape:w'.tape=w.tape
 output:w'.output=w.output
 size:w.heap.size≤w'.heap.size
 block: ∀k,k<B→k∉S→w'.heap[k]?=w.heap[k]?
theorem But.of_below {B:Nat} {S:List Nat} {w w':World} (h:Below B w w'):But B S w w':=⟨h.os,h.tape,h.output,h.size,fun k hk _=>h.block k hk⟩
theorem But.below {B:Nat} {w w':World} (h:But B [] w w'):Below B w w':=⟨h.os,h.tape,h.output,h.size,fun k hk=>h.block k hk (by simp)⟩
theorem But.refl (B:Nat) (S:List Nat) (w:World):But B S w w:=⟨rfl,rfl,rfl,Nat.le_refl _,fun _ _ _=>rfl⟩
theorem But.trans {B:Nat} {S:List Nat} {a b c:World} (h:But B S a b) (k:But B S b c):But B S a c:=
 ⟨k.os.trans h.os,k.tape.trans h.tape,k.output.trans h.output,Nat.le_trans h.size k.size,fun i hi hs=> (k.block i hi hs).trans (h.block i hi hs)⟩
theorem But.mono {B B':Nat} {S S':List Nat} {w w':World} (h:But B S w w') (hB:B'≤B) (hS: ∀k,k<B'→k∈S→k∈S'):But B' S' w w':=
 ⟨h.os,h.tape,h.output,h.size,fun k hk hs=>h.block k (by omega) (fun hk'=>hs (hS k hk hk'))⟩
theorem But.grown {B:Nat} {S:List Nat} {a w w':World} {row:Option Nat} (h:But B S a w) (hg:w.grownBy w' row) (hB:B≤w.heap.size) (hr: ∀k,row=some k→k∈S∨B≤k):But B S a w':=
 h.trans ⟨hg.os,hg.tape,hg.output,hg.size,fun k hk hs=>hg.block k (by omega) (fun e=>by
  rcases hr k e.symm with h1|h1
  ·exact hs h1
  ·omega)⟩
theorem But.cell {B:Nat} {S:List Nat} {w w':World} (h:But B S w w') {p:Addr} (hp:p.block<B) (hs:p.block∉S):w'.cell? p=w.cell? p:=World.cell?_of_block (w:=w) (h.block p.block hp hs)
theorem But.frozen {B:Nat} {S:List Nat} {w w':World} (h:But B S w w') {p:Addr} (hp:p.block<B) (hs:p.block∉S):w'.frozen? p=w.frozen? p:=World.frozen?_of_block (w:=w) (h.block p.block hp hs)
theorem MapS.but {w w':World} {P:Program} {k:TypeId} {b n sz:Nat} {f:List UInt8→Option Value} (h:MapS w P k b n f sz) {B:Nat} {S:List Nat} (hb:But B S w w') (hB:b<B) (hs:b∉S):MapS w' P k b n f sz:=h.keep (hb.block b hB hs)
theorem MapS.store {P:Program} {w:World} {k e t:TypeId} {b n sz:Nat} {f:List UInt8→Option Value} (h:MapS w P k b n f sz) (hk:P.underlying k=some .string) (ht:P.underlying t=some (.map k e)) (hn:n<maxLen)
  {s:ByteArray} (hs:s.size≤maxLen) (u:Value): ∃w',(Instr.mapUpdate t (.map (some b)) (.string s) u).run P w= .ok () w'∧MapS w' P k b (n+1) (putF f s.data.toList u) (if(f s.data.toList).isSome then sz else sz+1)∧w.grownBy w' (some b):=by
 obtain⟨D,hown,hsz,hat,hh⟩:=h
 have ht':=hown.tidy (string_keyed hk)
 obtain⟨w',hrun,h1,h2⟩:=hown.store (string_keyed hk) ht hn (Go.WideMaps.keyOf_string_mk hk hs) (val:=u) (d:= .held u) (ps:= []) rfl
 refine⟨w',hrun,⟨_,h1, ?_, ?_, ?_⟩,h2.grown⟩
 ·rw [size_put ht',hh,hsz]
 ·intro s' z
  unfold putF
  by_cases hs':s'=s.data.toList
  ·subst hs'
   rw [atKey_put_same ht'.isMap (by simp [WideAt.IsKeyLit]),if_pos rfl]
   rfl
  ·rw [atKey_put_other (lit_ne hs'),if_neg hs',hat]
 ·intro s'
  unfold putF
  by_cases hs':s'=s.data.toList
  ·subst hs'
   rw [has_put_same ht'.isMap (by simp [WideAt.IsKeyLit]),if_pos rfl]
   rfl
  ·rw [has_put_other (lit_ne hs'),if_neg hs',hh]
theorem own_run {P:Program} (w:World) (t ty:TypeId) {e:TypeId} {z:Value} {size bytes:Nat}
  (ht:P.underlying t=some (.slice e)) (hi:(P.info? e).map (fun i=> (i.zero,i.size,i.bytes))=some (some z,size,bytes)) (hzs:z.cells.size=size) (hsz:0<size)
  (base:Nat) {v:Value} {n:Nat} {xs:List Value} (hown:w.ownsRow base e size v n xs)
  {A:Option Addr} {m c:Nat} {news:List Value} (hl:news.length=m*size) (hnews:0<m→ ∃ad,A=some ad∧ ∀j u,news[j]?=some u→w.cell? (ad.add j)=some u) (h1: ∀u∈news,u.oneCell'=true)
  (h63:n+m≤maxLen) (hbytes:(n+m)*bytes≤140737488355328) (hbase:base≤w.heap.size):
  ∃v' w',(Builtin.append_ #[t,t] ty #[v, .slice A m c]).run P w= .ok v' w'∧w'.ownsRow base e size v' (n+m) (xs++news)∧w.grownBy w' v.ownBlock∧Below base w w':=by
 obtain⟨i,hi,hz,hsize,hby⟩:=info_parts hi
 rcases A with _|ad
 ·have hm:m=0:=by
   rcases Nat.eq_zero_or_pos m with h0|h0
   ·exact h0
   ·obtain⟨ad,h,_⟩:=hnews h0
    cases h
  subst hm
  have hn:news= []:=List.eq_nil_of_length_eq_zero (by simpa using hl)
  subst hn
  exact⟨v,w,run_append_nothing w base t ty e i size ht hi v n xs hown c,by simpa using hown,World.grownBy.refl w _,Below.refl _ _⟩
 ·have hcells: ∀j u,news[j]?=some u→w.cell? (ad.add j)=some u:=by
   intro j u hu
   rcases Nat.eq_zero_or_pos m with h0|h0
   ·subst h0
    have hn:news= []:=List.eq_nil_of_length_eq_zero (by simpa using hl)
    subst hn
    simp at hu
   ·obtain⟨ad',h,hc⟩:=hnews h0
    injection h with h
    subst h
    exact hc j u hu
  obtain⟨v',w',hrun,h2,h3,_,h5⟩:=run_append_own_at (P:=P) w base t ty e i z size bytes ht hi hz hsize hby hzs hsz v n xs hown ad m c news hl hcells h1 h63 hbytes hbase
  exact⟨v',w',hrun,h2,h3,(Below.refl _ _).grown h3 hbase fun k hk=> (hown.lt k hk).1⟩
theorem step_own {P:Program} {w:World} {ops:Array Oper} {o:Oper} {a:Act} {K:Act→World→Prop} {Q:Exit→Act→World→Prop} {E:Prop} (hgd:o.guard=none) (s x:Operand) (t:TypeId)
  (ho:o.op= .call { callee:= .builtin .append,args:= #[s,x],argTypes:= #[t,t] }) {e:TypeId} {z:Value} {size bytes:Nat}
  (ht:P.underlying t=some (.slice e)) (hi:(P.info? e).map (fun i=> (i.zero,i.size,i.bytes))=some (some z,size,bytes)) (hzs:z.cells.size=size) (hsz:0<size)
  (base:Nat) {v:Value} {n:Nat} {xs:List Value} (hs:a.eval s=v) (hown:w.ownsRow base e size v n xs)
  {A:Option Addr} {m c:Nat} {news:List Value} (hx:a.eval x= .slice A m c) (hl:news.length=m*size) (hnews:0<m→ ∃ad,A=some ad∧ ∀j u,news[j]?=some u→w.cell? (ad.add j)=some u) (h1: ∀u∈news,u.oneCell'=true)
  (h63:n+m≤maxLen) (hbytes:(n+m)*bytes≤140737488355328) (hbase:base≤w.heap.size)
  (h: ∀v' w',w'.ownsRow base e size v' (n+m) (xs++news)→w.grownBy w' v.ownBlock→Below base w w'→K (a.put o.dst v') w'):if Region.wanted o (yielded ops a.tmps)=true then Oper.wp P o a w K Q else E:=by
 have hw:Region.wanted o (yielded ops a.tmps)=true:=by simp [Region.wanted,hgd]
 rw [if_pos hw]
 obtain⟨v',w',hr,h2,h3,h4⟩:=own_run (P:=P) w t o.type ht hi hzs hsz base hown (A:=A) (m:=m) (c:=c) hl hnews h1 h63 hbytes hbase
 unfold Oper.wp execOp
 simp only [ho,resolve,invoke,builtin,Sem.run_bind,Sem.run_pure,Result.andThen_ok,List.map_toArray,List.map_cons,List.map_nil,hs,hx,hr]
 exact h v' w' h2 h3 h4
end Go.Proofs.YtlcidkiplidamaaGreatDoor
namespace Go.Proofs.YtlcidkiplidamaaGreatDoor
open Go Go.RowKit Lib
structure Ko where
 tag:Int
 text:ByteArray
 num:Int
 a:Int
 b:Int
def Ko.cells (k:Ko):List Value:= [.int .i64 k.tag, .string k.text, .int .i64 k.num, .int .i64 k.a, .int .i64 k.b]
structure FieldV where
 acc:Int
 name:Int
 desc:Int
 value:Int
def FieldV.cells (f:FieldV):List Value:= [.int .i64 f.acc, .int .i64 f.name, .int .i64 f.desc, .int .i64 f.value]
structure TrapV where
 lo:Int
 hi:Int
 tgt:Int
 kind:Int
def TrapV.cells (f:TrapV):List Value:= [.int .i64 f.lo, .int .i64 f.hi, .int .i64 f.tgt, .int .i64 f.kind]
structure MethV where
 acc:Int
 name:Int
 desc:Int
 has:Bool
 stack:Int
 locals:Int
 code:List UInt8
 traps:List TrapV
structure ClassV where
 minor:Int
 major:Int
 pool:List Ko
 acc:Int
 this:Int
 sup:Int
 ifs:List Int
 flds:List FieldV
 mths:List MethV
def SlAt (w:World) (ok:Nat→Prop) (size n:Nat) (cells:List Value) (v:Value):Prop:=
 ∃A cap,v= .slice A n cap∧n≤cap∧n≤1048576∧cells.length=n*size∧(0<n→ ∃b off,A=some ⟨b,off,none⟩∧b<w.heap.size∧ok b∧ ∀j u,cells[j]?=some u→w.cell? ⟨b,off+j,none⟩=some u)
structure Kept (ok:Nat→Prop) (w w':World):Prop where
 size:w.heap.size≤w'.heap.size
 cell: ∀g,g<w.heap.size→ok g→ ∀o,w'.cell? ⟨g,o,none⟩=w.cell? ⟨g,o,none⟩
theorem Kept.of_but {ok:Nat→Prop} {S:List Nat} {w w':World} (h:But w.heap.size S w w') (hs: ∀g,ok g→g∉S):Kept ok w w':=
 ⟨h.size,fun g hg ho o=>h.cell (p:=⟨g,o,none⟩) hg (hs g ho)⟩
theorem Kept.of_below {ok:Nat→Prop} {w w':World} (h:Below w.heap.size w w'):Kept ok w w':=⟨h.size,fun g hg _ o=>h.cell (p:=⟨g,o,none⟩) hg⟩
theorem Kept.trans {ok:Nat→Prop} {a b c:World} (h:Kept ok a b) (k:Kept ok b c):Kept ok a c:=
 ⟨Nat.le_trans h.size k.size,fun g hg ho o=> (k.cell g (Nat.lt_of_lt_of_le hg h.size) ho o).trans (h.cell g hg ho o)⟩
theorem Kept.mono {ok ok':Nat→Prop} {w w':World} (h:Kept ok w w') (hs: ∀g,ok' g→ok g):Kept ok' w w':=⟨h.size,fun g hg ho o=>h.cell g hg (hs g ho) o⟩
theorem SlAt.keep {w w':World} {ok:Nat→Prop} {size n:Nat} {cells:List Value} {v:Value} (h:SlAt w ok size n cells v) (hk:Kept ok w w'):SlAt w' ok size n cells v:=by
 obtain⟨A,cap,rfl,h1,h2,h3,h4⟩:=h
 refine⟨A,cap,rfl,h1,h2,h3,fun h0=> ?_⟩
 obtain⟨b,off,e,hlt,ho,hc⟩:=h4 h0
 exact⟨b,off,e,Nat.lt_of_lt_of_le hlt hk.size,ho,fun j u hu=> (hk.cell b hlt ho _).trans (hc j u hu)⟩
theorem SlAt.mono {w:World} {ok ok':Nat→Prop} {size n:Nat} {cells:List Value} {v:Value} (h:SlAt w ok size n cells v) (hs: ∀g,g<w.heap.size→ok g→ok' g):SlAt w ok' size n cells v:=by
 obtain⟨A,cap,rfl,h1,h2,h3,h4⟩:=h
 refine⟨A,cap,rfl,h1,h2,h3,fun h0=> ?_⟩
 obtain⟨b,off,e,hlt,ho,hc⟩:=h4 h0
 exact⟨b,off,e,hlt,hs b hlt ho,hc⟩
theorem slAt_nil (w:World) (ok:Nat→Prop) (size:Nat):SlAt w ok size 0 [] (.slice none 0 0):=⟨none,0,rfl,Nat.le_refl _,by omega,by simp,fun h=>absurd h (by omega)⟩
theorem slAt_own {w:World} {base:Nat} {e:TypeId} {size n:Nat} {v:Value} {xs:List Value} (h:w.ownsRow base e size v n xs) (ok:Nat→Prop) (hs:0<size) (hn:n≤1048576) (ho: ∀g,v.ownBlock=some g→ok g):SlAt w ok size n xs v:=by
 rcases h.2 with⟨rfl,h0⟩ | ⟨g,cap,cur,rfl,hb,hg,hnc,hcm,hcs,hx⟩
 ·subst h0
  have hn0:xs= []:=by
   have hl:=h.1
   simp at hl
   exact hl
  subst hn0
  exact slAt_nil w ok size
 ·exact⟨_,cap,rfl,hnc,hn,h.1,fun h0=> ⟨g,0,rfl,(h.lt g rfl).2,ho g rfl,fun j u hu=>by
   have hl:j<n*size:=by
    have:=(List.getElem?_eq_some_iff.1 hu).1
    have:=h.1
    omega
   rw [Nat.zero_add,h.cellAt j hl]
   exact hu⟩⟩
structure MethAt (w:World) (ok:Nat→Prop) (m:MethV) (code traps:Value):Prop where
 hcode:SlAt w ok 1 m.code.length (m.code.map bV) code
 htraps:SlAt w ok 4 m.traps.length (m.traps.flatMap TrapV.cells) traps
def MethV.cells (m:MethV) (code traps:Value):List Value:= [.int .i64 m.acc, .int .i64 m.name, .int .i64 m.desc, .bool m.has, .int .i64 m.stack, .int .i64 m.locals,code,traps]
def methCells (ms:List (MethV×Value×Value)):List Value:=ms.flatMap fun m=>m.1.cells m.2.1 m.2.2
def ClassV.cells (c:ClassV) (pool ifs flds mths:Value):List Value:= [.int .i64 c.minor, .int .i64 c.major,pool, .int .i64 c.acc, .int .i64 c.this, .int .i64 c.sup,ifs,flds,mths]
structure ClassAt (w:World) (ok:Nat→Prop) (c:ClassV) (pool ifs flds mths:Value):Prop where
 hpool:SlAt w ok 5 c.pool.length (c.pool.flatMap Ko.cells) pool
 hifs:SlAt w ok 1 c.ifs.length (c.ifs.map (Value.int .i64)) ifs
 hflds:SlAt w ok 4 c.flds.length (c.flds.flatMap FieldV.cells) flds
 hmths: ∃ms:List (MethV×Value×Value),ms.map (·.1)=c.mths∧SlAt w ok 8 c.mths.length (methCells ms) mths∧ ∀m∈ms,MethAt w ok m.1 m.2.1 m.2.2
theorem ClassAt.keep {w w':World} {ok:Nat→Prop} {c:ClassV} {pool ifs flds mths:Value} (h:ClassAt w ok c pool ifs flds mths) (hk:Kept ok w w'):ClassAt w' ok c pool ifs flds mths where
 hpool:=h.hpool.keep hk
 hifs:=h.hifs.keep hk
 hflds:=h.hflds.keep hk
 hmths:=by
  obtain⟨ms,h1,h2,h3⟩:=h.hmths
  exact⟨ms,h1,h2.keep hk,fun m hm=> ⟨(h3 m hm).hcode.keep hk,(h3 m hm).htraps.keep hk⟩⟩
theorem ClassAt.mono {w:World} {ok ok':Nat→Prop} {c:ClassV} {pool ifs flds mths:Value} (h:ClassAt w ok c pool ifs flds mths) (hs: ∀g,g<w.heap.size→ok g→ok' g):ClassAt w ok' c pool ifs flds mths where
 hpool:=h.hpool.mono hs
 hifs:=h.hifs.mono hs
 hflds:=h.hflds.mono hs
 hmths:=by
  obtain⟨ms,h1,h2,h3⟩:=h.hmths
  exact⟨ms,h1,h2.mono hs,fun m hm=> ⟨(h3 m hm).hcode.mono hs,(h3 m hm).htraps.mono hs⟩⟩
structure Rs where
 pos:Nat
 most:Nat
 named:Nat
 pool:List Ko
abbrev Rx (α:Type):=Except (Nat×Nat) (α×Rs)
def Rx.bind {α β:Type} (x:Rx α) (f:α→Rs→Rx β):Rx β:=
 match x with
 | .error e=> .error e
 | .ok (a,s)=>f a s
theorem Rx.bind_ok {α β:Type} (a:α) (s:Rs) (f:α→Rs→Rx β):Rx.bind (.ok (a,s)) f=f a s:=rfl
theorem Rx.bind_assoc {α β γ:Type} (x:Rx α) (f:α→Rs→Rx β) (g:β→Rs→Rx γ):Rx.bind (Rx.bind x f) g=Rx.bind x fun a s=>Rx.bind (f a s) g:=by
 rcases x with e| ⟨a,s⟩ <;>rfl
def bytesP (l:List UInt8) (n:Nat) (st:Rs):Rx (List UInt8):=
 if l.length<st.pos+n then .error (st.pos,10) else if st.most<st.pos+n then .error (st.named,25) else .ok ((l.drop st.pos).take n,{ st with pos:=st.pos+n })
def beN (l:List UInt8):Nat:=l.foldl (fun v x=>v*256+x.toNat) 0
def numP (l:List UInt8) (n:Nat) (st:Rs):Rx Nat:=Rx.bind (bytesP l n st) fun b s=> .ok (beN b,s)
def countP (l:List UInt8) (m:Nat) (st:Rs):Rx Nat:=Rx.bind (numP l 2 st) fun n s=>if m<n then .error (st.pos,2) else .ok (n,s)
def int32P (n:Nat):Int:=if n<2147483648 then n else(n:Int) - 4294967296
def koP (l:List UInt8) (st:Rs):Rx Ko:=Rx.bind (numP l 1 st) fun t s1=>
 if t=1 then Rx.bind (numP l 2 s1) fun n s2=>Rx.bind (bytesP l n s2) fun b s3=> .ok (⟨1,⟨b.toArray⟩,0,0,0⟩,s3)
 else if t=3 then Rx.bind (numP l 4 s1) fun n s2=> .ok (⟨3,⟨#[]⟩,int32P n,0,0⟩,s2)
 else if t=7 then Rx.bind (numP l 2 s1) fun n s2=> .ok (⟨7,⟨#[]⟩,0,n,0⟩,s2)
 else if t=9∨t=10∨t=11∨t=12 then Rx.bind (numP l 2 s1) fun n s2=>Rx.bind (numP l 2 s2) fun m s3=> .ok (⟨t,⟨#[]⟩,0,n,m⟩,s3)
 else .error (st.pos,13)
def repP {α:Type} (f:Rs→Rx α):Nat→Rs→Rx (List α)
 |0,st=> .ok ([],st)
 |k+1,st=>Rx.bind (f st) fun a s=>Rx.bind (repP f k s) fun r s'=> .ok (a::r,s')
def Rx.pre {α:Type} (cs:List α) (x:Rx (List α)):Rx (List α):=Rx.bind x fun r s=> .ok (cs++r,s)
theorem Rx.pre_nil {α:Type} (x:Rx (List α)):Rx.pre [] x=x:=by rcases x with e| ⟨a,s⟩ <;>rfl
theorem repP_step {α:Type} {f:Rs→Rx α} {k:Nat} {st:Rs} {cs:List α} {a:α} {s:Rs} (h:f st= .ok (a,s)):Rx.pre cs (repP f (k+1) st)=Rx.pre (cs++ [a]) (repP f k s):=by
 unfold Rx.pre
 rw [repP,h,Rx.bind_ok,Rx.bind_assoc]
 congr 1
 funext r s'
 rw [Rx.bind_ok]
 simp
theorem repP_stop {α:Type} {f:Rs→Rx α} {k:Nat} {st:Rs} {cs:List α} {e:Nat×Nat} (h:f st= .error e):Rx.pre cs (repP f (k+1) st)= .error e:=by
 unfold Rx.pre
 rw [repP,h]
 rfl
theorem repP_end {α:Type} {f:Rs→Rx α} {st:Rs} {cs:List α}:Rx.pre cs (repP f 0 st)= .ok (cs,st):=by
 unfold Rx.pre
 rw [repP,Rx.bind_ok,List.append_nil]
def nameP (l:List UInt8) (st:Rs):Rx (Nat×ByteArray):=Rx.bind (numP l 2 st) fun n s=>
 match(if n=0 then none else st.pool[n - 1]?) with
 |none=> .error (st.pos,20)
 |some k=>if k.tag=1 then .ok ((st.pos,k.text),s) else .error (st.pos,20)
def attrP {σ:Type} (l:List UInt8) (want:Option (List UInt8)) (act:σ→Nat→Nat→Rs→Rx σ):Nat→Bool→σ→Rs→Rx σ
 |0,_,x,st=> .ok (x,st)
 |k+1,seen,x,st=>Rx.bind (nameP l st) fun a s1=>
  if want=some a.2.toList∧seen=true then .error (a.1,24)
  else Rx.bind (numP l 4 s1) fun long s2=>
   if want=some a.2.toList then Rx.bind (act x a.1 long s2) fun x' s3=>attrP l want act k true x' s3
   else Rx.bind (bytesP l long s2) fun _ s3=>attrP l want act k seen x s3
def attrsP {σ:Type} (l:List UInt8) (want:Option (List UInt8)) (act:σ→Nat→Nat→Rs→Rx σ) (x:σ) (st:Rs):Rx σ:=Rx.bind (numP l 2 st) fun k s=>attrP l want act k false x s
def skipP (l:List UInt8) (st:Rs):Rx Unit:=attrsP l none (fun x _ _ s=> .ok (x,s)) () st
def constantValueL:List UInt8:= "ConstantValue".toUTF8.data.toList
def codeL:List UInt8:= "Code".toUTF8.data.toList
def fieldP (l:List UInt8) (st:Rs):Rx FieldV:=Rx.bind (numP l 2 st) fun a s1=>Rx.bind (numP l 2 s1) fun n s2=>Rx.bind (numP l 2 s2) fun d s3=>
 attrsP l (some constantValueL) (fun f at' long s=>if long≠2 then .error (at',26) else Rx.bind (numP l 2 s) fun v s'=> .ok ({ f with value:=v },s')) ⟨a,n,d,0⟩ s3
def trapP (l:List UInt8) (st:Rs):Rx TrapV:=Rx.bind (numP l 2 st) fun a s1=>Rx.bind (numP l 2 s1) fun b s2=>Rx.bind (numP l 2 s2) fun c s3=>Rx.bind (numP l 2 s3) fun d s4=> .ok (⟨a,b,c,d⟩,s4)
def codeP (l:List UInt8) (m:MethV) (at' long:Nat) (st:Rs):Rx MethV:=
 Rx.bind (numP l 2 { st with most:=st.pos+long,named:=at' }) fun sk s1=>Rx.bind (numP l 2 s1) fun lo s2=>Rx.bind (numP l 4 s2) fun n s3=>
  if 4096<n then .error (s2.pos,2)
  else Rx.bind (bytesP l n s3) fun b s4=>Rx.bind (countP l 64 s4) fun k s5=>Rx.bind (repP (trapP l) k s5) fun ts s6=>Rx.bind (skipP l s6) fun _ s7=>
   if s7.pos≠s7.most then .error (at',25) else .ok ({ m with has:=true,stack:=sk,locals:=lo,code:=b,traps:=ts },{ s7 with most:=4611686018427387904 })
def methP (l:List UInt8) (st:Rs):Rx MethV:=Rx.bind (numP l 2 st) fun a s1=>Rx.bind (numP l 2 s1) fun n s2=>Rx.bind (numP l 2 s2) fun d s3=>
 attrsP l (some codeL) (fun m at' long s=>codeP l m at' long s) ⟨a,n,d,false,0,0, [], []⟩ s3
def clsE (l:List UInt8) (mi ma:Nat) (pool:List Ko) (a t u:Nat) (ifs:List Nat) (flds:List FieldV) (mths:List MethV) (s:Rs):Rx ClassV:=Rx.bind (skipP l s) fun _ s'=>
 if s'.pos<l.length then .error (s'.pos,14) else .ok (⟨mi,ma,pool,a,t,u,ifs.map Int.ofNat,flds,mths⟩,s')
def clsD (l:List UInt8) (mi ma:Nat) (pool:List Ko) (a t u:Nat) (ifs:List Nat) (flds:List FieldV) (s:Rs):Rx ClassV:=Rx.bind (countP l 64 s) fun n s'=>Rx.bind (repP (methP l) n s') (clsE l mi ma pool a t u ifs flds)
def clsC (l:List UInt8) (mi ma:Nat) (pool:List Ko) (a t u:Nat) (ifs:List Nat) (s:Rs):Rx ClassV:=Rx.bind (countP l 64 s) fun n s'=>Rx.bind (repP (fieldP l) n s') (clsD l mi ma pool a t u ifs)
def clsB (l:List UInt8) (mi ma:Nat) (pool:List Ko) (s:Rs):Rx ClassV:=Rx.bind (numP l 2 { s with pool:=pool }) fun a s5=>Rx.bind (numP l 2 s5) fun t s6=>Rx.bind (numP l 2 s6) fun u s7=>
 Rx.bind (countP l 64 s7) fun n s'=>Rx.bind (repP (numP l 2) n s') (clsC l mi ma pool a t u)
def classP (l:List UInt8) (st:Rs):Rx ClassV:=Rx.bind (numP l 4 st) fun m s0=>if m≠3405691582 then .error (0,11)
 else Rx.bind (numP l 2 s0) fun mi s1=>Rx.bind (numP l 2 s1) fun ma s2=>Rx.bind (countP l 1025 s2) fun n s3=>if n=0 then .error (s2.pos,20)
  else Rx.bind (repP (koP l) (n - 1) s3) (clsB l mi ma)
def readP (l:List UInt8):Except (Nat×Nat) ClassV:=
 if 65536<l.length then .error (0,2)
 else match classP l ⟨0,4611686018427387904,0, []⟩ with
  | .error e=> .error e
  | .ok (c,_)=> .ok c
def AtL (l:List UInt8) (p:Nat) (r:List UInt8):Prop:= ∃pre,l=pre++r∧pre.length=p
theorem AtL.next {l:List UInt8} {p:Nat} {b r:List UInt8} (h:AtL l p (b++r)):AtL l (p+b.length) r:=by
 obtain⟨pre,e,hp⟩:=h
 exact⟨pre++b,by rw [e,List.append_assoc],by rw [List.length_append,hp]⟩
theorem bytes_at {l:List UInt8} {p most nm:Nat} {pool:List Ko} {b r:List UInt8} {n:Nat} (h:AtL l p (b++r)) (hn:b.length=n) (hm:l.length≤most):
  bytesP l n ⟨p,most,nm,pool⟩= .ok (b,⟨p+n,most,nm,pool⟩):=by
 obtain⟨pre,e,hp⟩:=h
 have hl:l.length=p+(n+r.length):=by rw [e,List.length_append,List.length_append,hp,hn]
 unfold bytesP
 rw [if_neg (by show¬l.length<p+n;omega),if_neg (by show¬most<p+n;omega)]
 show Except.ok ((l.drop p).take n,_)=_
 rw [e, ←hp, ←hn,List.drop_left,List.take_left]
theorem num_at {l:List UInt8} {p most nm:Nat} {pool:List Ko} (b:List UInt8) {r:List UInt8} {n:Nat} (h:AtL l p (b++r)) (hn:b.length=n) (hm:l.length≤most):
  numP l n ⟨p,most,nm,pool⟩= .ok (beN b,⟨p+n,most,nm,pool⟩):=by
 unfold numP
 rw [bytes_at h hn hm,Rx.bind_ok]
theorem ko_one {l:List UInt8} {p most nm:Nat} {pool:List Ko} {x y:UInt8} {b r:List UInt8} (h:AtL l p (1::x::y::(b++r))) (hn:b.length=beN [x,y]) (hm:l.length≤most):
  koP l ⟨p,most,nm,pool⟩= .ok (⟨1,⟨b.toArray⟩,0,0,0⟩,⟨p+3+b.length,most,nm,pool⟩):=by
 have h1:AtL l (p+1) (x::y::(b++r)):=h.next (b:= [1])
 have h2:AtL l (p+3) (b++r):=h1.next (b:= [x,y])
 unfold koP
 rw [num_at [1] (n:=1) (r:=x::y::(b++r)) h rfl hm,Rx.bind_ok,if_pos (by rfl),num_at [x,y] (n:=2) (r:=b++r) h1 rfl hm,Rx.bind_ok,bytes_at h2 hn hm,Rx.bind_ok, ←hn]
theorem ko_seven {l:List UInt8} {p most nm:Nat} {pool:List Ko} {x y:UInt8} {r:List UInt8} (h:AtL l p (7::x::y::r)) (hm:l.length≤most):
  koP l ⟨p,most,nm,pool⟩= .ok (⟨7,⟨#[]⟩,0,beN [x,y],0⟩,⟨p+3,most,nm,pool⟩):=by
 have h1:AtL l (p+1) (x::y::r):=h.next (b:= [7])
 unfold koP
 rw [num_at [7] (n:=1) (r:=x::y::r) h rfl hm,Rx.bind_ok,if_neg (by decide),if_neg (by decide),if_pos (by rfl),num_at [x,y] (n:=2) (r:=r) h1 rfl hm,Rx.bind_ok]
end Go.Proofs.YtlcidkiplidamaaGreatDoor
/-
 Pruned.
-/
/-
 The table of the instructions as plain data, and what it answers.
-/
namespace Go.Proofs.YtlcidkiplidamaaGreatDoor
def rowL:List (Int×List UInt8×List UInt8):= [
 (0, [110,111,112], []),
 (1, [97,99,111,110,115,116,95,110,117,108,108], []),
 (2, [105,99,111,110,115,116,95,109,49], []),
 (3, [105,99,111,110,115,116,95,48], []),
 (4, [105,99,111,110,115,116,95,49], []),
 (5, [105,99,111,110,115,116,95,50], []),
 (6, [105,99,111,110,115,116,95,51], []),
 (7, [105,99,111,110,115,116,95,52], []),
 (8, [105,99,111,110,115,116,95,53], []),
 (16, [98,105,112,117,115,104], [98]),
 (17, [115,105,112,117,115,104], [115]),
 (18, [108,100,99], [117]),
 (21, [105,108,111,97,100], [117]),
 (25, [97,108,111,97,100], [117]),
 (26, [105,108,111,97,100,95,48], []),
 (27, [105,108,111,97,100,95,49], []),
 (28, [105,108,111,97,100,95,50], []),
 (29, [105,108,111,97,100,95,51], []),
 (42, [97,108,111,97,100,95,48], []),
 (43, [97,108,111,97,100,95,49], []),
 (44, [97,108,111,97,100,95,50], []),
 (45, [97,108,111,97,100,95,51], []),
 (54, [105,115,116,111,114,101], [117]),
 (58, [97,115,116,111,114,101], [117]),
 (59, [105,115,116,111,114,101,95,48], []),
 (60, [105,115,116,111,114,101,95,49], []),
 (61, [105,115,116,111,114,101,95,50], []),
 (62, [105,115,116,111,114,101,95,51], []),
 (75, [97,115,116,111,114,101,95,48], []),
 (76, [97,115,116,111,114,101,95,49], []),
 (77, [97,115,116,111,114,101,95,50], []),
 (78, [97,115,116,111,114,101,95,51], []),
 (87, [112,111,112], []),
 (89, [100,117,112], []),
 (95, [115,119,97,112], []),
 (96, [105,97,100,100], []),
 (100, [105,115,117,98], []),
 (104, [105,109,117,108], []),
 (108, [105,100,105,118], []),
 (112, [105,114,101,109], []),
 (116, [105,110,101,103], []),
 (120, [105,115,104,108], []),
 (122, [105,115,104,114], []),
 (124, [105,117,115,104,114], []),
 (126, [105,97,110,100], []),
 (128, [105,111,114], []),
 (130, [105,120,111,114], []),
 (132, [105,105,110,99], [117,98]),
 (145, [105,50,98], []),
 (146, [105,50,99], []),
 (147, [105,50,115], []),
 (153, [105,102,101,113], [106]),
 (154, [105,102,110,101], [106]),
 (155, [105,102,108,116], [106]),
 (156, [105,102,103,101], [106]),
 (157, [105,102,103,116], [106]),
 (158, [105,102,108,101], [106]),
 (159, [105,102,95,105,99,109,112,101,113], [106]),
 (160, [105,102,95,105,99,109,112,110,101], [106]),
 (161, [105,102,95,105,99,109,112,108,116], [106]),
 (162, [105,102,95,105,99,109,112,103,101], [106]),
 (163, [105,102,95,105,99,109,112,103,116], [106]),
 (164, [105,102,95,105,99,109,112,108,101], [106]),
 (165, [105,102,95,97,99,109,112,101,113], [106]),
 (166, [105,102,95,97,99,109,112,110,101], [106]),
 (167, [103,111,116,111], [106]),
 (172, [105,114,101,116,117,114,110], []),
 (176, [97,114,101,116,117,114,110], []),
 (177, [114,101,116,117,114,110], []),
 (178, [103,101,116,115,116,97,116,105,99], [102]),
 (179, [112,117,116,115,116,97,116,105,99], [102]),
 (180, [103,101,116,102,105,101,108,100], [102]),
 (181, [112,117,116,102,105,101,108,100], [102]),
 (182, [105,110,118,111,107,101,118,105,114,116,117,97,108], [109]),
 (183, [105,110,118,111,107,101,115,112,101,99,105,97,108], [109]),
 (184, [105,110,118,111,107,101,115,116,97,116,105,99], [109]),
 (185, [105,110,118,111,107,101,105,110,116,101,114,102,97,99,101], [105]),
 (187, [110,101,119], [99]),
 (191, [97,116,104,114,111,119], []),
 (192, [99,104,101,99,107,99,97,115,116], [99]),
 (193, [105,110,115,116,97,110,99,101,111,102], [99]),
 (198, [105,102,110,117,108,108], [106]),
 (199, [105,102,110,111,110,110,117,108,108], [106])]
def rowOf (c:Int):List UInt8×List UInt8:=
 match rowL.find? (fun r=>r.1==c) with
 |some r=>r.2
 |none=> ([], [])
theorem rowOf_none {c:Int} (h: ∀r∈rowL,r.1≠c):rowOf c=([], []):=by
 have:rowL.find? (fun r=>r.1==c)=none:=by
  rw [List.find?_eq_none]
  intro r hr
  simpa using h r hr
 unfold rowOf
 rw [this]
def codeOf (s:List UInt8):Int:=
 match rowL.find? (fun r=>r.2.1==s) with
 |some r=>r.1
 |none=> -1
theorem rowOf_0:rowOf 0=([110,111,112], []):=by rfl
theorem rowOf_1:rowOf 1=([97,99,111,110,115,116,95,110,117,108,108], []):=by rfl
theorem rowOf_2:rowOf 2=([105,99,111,110,115,116,95,109,49], []):=by rfl
theorem rowOf_3:rowOf 3=([105,99,111,110,115,116,95,48], []):=by rfl
theorem rowOf_4:rowOf 4=([105,99,111,110,115,116,95,49], []):=by rfl
theorem rowOf_5:rowOf 5=([105,99,111,110,115,116,95,50], []):=by rfl
theorem rowOf_6:rowOf 6=([105,99,111,110,115,116,95,51], []):=by rfl
theorem rowOf_7:rowOf 7=([105,99,111,110,115,116,95,52], []):=by rfl
theorem rowOf_8:rowOf 8=([105,99,111,110,115,116,95,53], []):=by rfl
theorem rowOf_16:rowOf 16=([98,105,112,117,115,104], [98]):=by rfl
theorem rowOf_17:rowOf 17=([115,105,112,117,115,104], [115]):=by rfl
theorem rowOf_18:rowOf 18=([108,100,99], [117]):=by rfl
theorem rowOf_21:rowOf 21=([105,108,111,97,100], [117]):=by rfl
theorem rowOf_25:rowOf 25=([97,108,111,97,100], [117]):=by rfl
theorem rowOf_26:rowOf 26=([105,108,111,97,100,95,48], []):=by rfl
theorem rowOf_27:rowOf 27=([105,108,111,97,100,95,49], []):=by rfl
theorem rowOf_28:rowOf 28=([105,108,111,97,100,95,50], []):=by rfl
theorem rowOf_29:rowOf 29=([105,108,111,97,100,95,51], []):=by rfl
theorem rowOf_42:rowOf 42=([97,108,111,97,100,95,48], []):=by rfl
theorem rowOf_43:rowOf 43=([97,108,111,97,100,95,49], []):=by rfl
theorem rowOf_44:rowOf 44=([97,108,111,97,100,95,50], []):=by rfl
theorem rowOf_45:rowOf 45=([97,108,111,97,100,95,51], []):=by rfl
theorem rowOf_54:rowOf 54=([105,115,116,111,114,101], [117]):=by rfl
theorem rowOf_58:rowOf 58=([97,115,116,111,114,101], [117]):=by rfl
theorem rowOf_59:rowOf 59=([105,115,116,111,114,101,95,48], []):=by rfl
theorem rowOf_60:rowOf 60=([105,115,116,111,114,101,95,49], []):=by rfl
theorem rowOf_61:rowOf 61=([105,115,116,111,114,101,95,50], []):=by rfl
theorem rowOf_62:rowOf 62=([105,115,116,111,114,101,95,51], []):=by rfl
theorem rowOf_75:rowOf 75=([97,115,116,111,114,101,95,48], []):=by rfl
theorem rowOf_76:rowOf 76=([97,115,116,111,114,101,95,49], []):=by rfl
theorem rowOf_77:rowOf 77=([97,115,116,111,114,101,95,50], []):=by rfl
theorem rowOf_78:rowOf 78=([97,115,116,111,114,101,95,51], []):=by rfl
theorem rowOf_153:rowOf 153=([105,102,101,113], [106]):=by rfl
theorem rowOf_154:rowOf 154=([105,102,110,101], [106]):=by rfl
theorem rowOf_155:rowOf 155=([105,102,108,116], [106]):=by rfl
theorem rowOf_156:rowOf 156=([105,102,103,101], [106]):=by rfl
theorem rowOf_157:rowOf 157=([105,102,103,116], [106]):=by rfl
theorem rowOf_158:rowOf 158=([105,102,108,101], [106]):=by rfl
theorem rowOf_159:rowOf 159=([105,102,95,105,99,109,112,101,113], [106]):=by rfl
theorem rowOf_160:rowOf 160=([105,102,95,105,99,109,112,110,101], [106]):=by rfl
theorem rowOf_161:rowOf 161=([105,102,95,105,99,109,112,108,116], [106]):=by rfl
theorem rowOf_162:rowOf 162=([105,102,95,105,99,109,112,103,101], [106]):=by rfl
theorem rowOf_163:rowOf 163=([105,102,95,105,99,109,112,103,116], [106]):=by rfl
theorem rowOf_164:rowOf 164=([105,102,95,105,99,109,112,108,101], [106]):=by rfl
theorem rowOf_165:rowOf 165=([105,102,95,97,99,109,112,101,113], [106]):=by rfl
theorem rowOf_166:rowOf 166=([105,102,95,97,99,109,112,110,101], [106]):=by rfl
theorem rowOf_167:rowOf 167=([103,111,116,111], [106]):=by rfl
end Go.Proofs.YtlcidkiplidamaaGreatDoor
namespace Go.Proofs
open Go.Shelf
def Tryz.lays137_ren:Go.Shelf.Ren:=⟨fun|137=>175|217=>177|266=>183|n=>n,fun|9=>9|5=>5|3=>3|n=>n,fun|n=>n⟩
theorem Tryz.lays137:Go.Proofs.Lays.n137 Tryz.prog Tryz.lays137_ren:={
 mixed:=by kernel_rfl
 f137:=Tryz.func175.trans (congrArg some (by kernel_rfl))
 f217:=Tryz.func177.trans (congrArg some (by kernel_rfl))
 f266:=Tryz.func183.trans (congrArg some (by kernel_rfl))
 t3:=Tryz.underlying3
 a3:=Tryz.isAgg3
 z3:=Tryz.sizeOf3
 v3:=Tryz.zeroValue3
 t5:=Tryz.underlying5
 a5:=Tryz.isAgg5
 z5:=Tryz.sizeOf5
 v5:=Tryz.zeroValue5
 t9:=Tryz.underlying9
 a9:=Tryz.isAgg9
 z9:=Tryz.sizeOf9
 v9:=Tryz.zeroValue9 }
open Go.RowKit in
theorem Tryz.strings_IndexByte (s:ByteArray) (c:Int) (w:World):
  Calls Tryz.prog 175 #[.string s, .int .u8 c] w fun e w'=>e= .returned (.int .i64 (Lib.indexByte s.data.toList c.toNat.toUInt8))∧w'=w:=Any.strings_IndexByte Tryz.lays137 s c w
def Tryz.lays144_ren:Go.Shelf.Ren:=⟨fun|144=>55|143=>123|219=>166|217=>177|225=>178|224=>179|267=>180|266=>183|314=>184|n=>n,fun|9=>9|4=>4|3=>3|5=>5|46=>92|146=>217|51=>216|n=>n,fun|1=>0|n=>n⟩
theorem Tryz.lays144:Go.Proofs.Lays.n144 Tryz.prog Tryz.lays144_ren:={
 mixed:=by kernel_rfl
 f143:=Tryz.func123.trans (congrArg some (by kernel_rfl))
 f144:=Tryz.func55.trans (congrArg some (by kernel_rfl))
 f217:=Tryz.func177.trans (congrArg some (by kernel_rfl))
 f219:=Tryz.func166.trans (congrArg some (by kernel_rfl))
 f224:=Tryz.func179.trans (congrArg some (by kernel_rfl))
 f225:=Tryz.func178.trans (congrArg some (by kernel_rfl))
 f266:=Tryz.func183.trans (congrArg some (by kernel_rfl))
 f267:=Tryz.func180.trans (congrArg some (by kernel_rfl))
 f314:=Tryz.func184.trans (congrArg some (by kernel_rfl))
 t3:=Tryz.underlying3
 a3:=Tryz.isAgg3
 z3:=Tryz.sizeOf3
 v3:=Tryz.zeroValue3
 t4:=Tryz.underlying4
 a4:=Tryz.isAgg4
 z4:=Tryz.sizeOf4
 v4:=Tryz.zeroValue4
 t5:=Tryz.underlying5
 a5:=Tryz.isAgg5
 z5:=Tryz.sizeOf5
 v5:=Tryz.zeroValue5
 t9:=Tryz.underlying9
 a9:=Tryz.isAgg9
 z9:=Tryz.sizeOf9
 v9:=Tryz.zeroValue9
 t46:=Tryz.underlying92
 a46:=Tryz.isAgg92
 z46:=Tryz.sizeOf92
 v46:=Tryz.zeroValue92
 t51:=Tryz.underlying216
 a51:=Tryz.isAgg216
 z51:=Tryz.sizeOf216
 v51:=Tryz.zeroValue216
 t146:=Tryz.underlying217
 a146:=Tryz.isAgg217
 z146:=Tryz.sizeOf217
 v146:=Tryz.zeroValue217
 g1:=by kernel_rfl }
open Go.RowKit Go.Lib in
theorem Tryz.strings_Contains_one (s:ByteArray) (c:UInt8) (w:World):
  Calls Tryz.prog 55 #[.string s, .string ⟨#[c]⟩] w fun e w'=>e= .returned (.bool (decide (0≤Lib.indexByte s.data.toList c)))∧w'=w:=Any.strings_Contains_one Tryz.lays144 s c w
def Tryz.lays99_ren:Go.Shelf.Ren:=⟨fun|99=>124|206=>167|n=>n,fun|9=>9|4=>4|3=>3|n=>n,fun|n=>n⟩
theorem Tryz.lays99:Go.Proofs.Lays.n99 Tryz.prog Tryz.lays99_ren:={
 mixed:=by kernel_rfl
 f99:=Tryz.func124.trans (congrArg some (by kernel_rfl))
 f206:=Tryz.func167.trans (congrArg some (by kernel_rfl))
 t3:=Tryz.underlying3
 a3:=Tryz.isAgg3
 z3:=Tryz.sizeOf3
 v3:=Tryz.zeroValue3
 t4:=Tryz.underlying4
 a4:=Tryz.isAgg4
 z4:=Tryz.sizeOf4
 v4:=Tryz.zeroValue4
 t9:=Tryz.underlying9
 a9:=Tryz.isAgg9
 z9:=Tryz.sizeOf9
 v9:=Tryz.zeroValue9 }
open Go.RowKit Go.Lib in
theorem Tryz.strings_HasPrefix (s p:ByteArray) (w:World):
  Calls Tryz.prog 124 #[.string s, .string p] w fun e w'=>e= .returned (.bool (Lib.hasPrefix s.data.toList p.data.toList))∧w'=w:=Any.strings_HasPrefix Tryz.lays99 s p w
def Tryz.lays151_ren:Go.Shelf.Ren:=⟨fun|151=>173|152=>182|137=>175|119=>185|224=>179|225=>178|217=>177|266=>183|n=>n,fun|9=>9|21=>21|4=>4|3=>3|5=>5|0=>0|46=>92|n=>n,fun|n=>n⟩
theorem Tryz.lays151:Go.Proofs.Lays.n151 Tryz.prog Tryz.lays151_ren:={
 mixed:=by kernel_rfl
 f119:=Tryz.func185.trans (congrArg some (by kernel_rfl))
 f137:=Tryz.func175.trans (congrArg some (by kernel_rfl))
 f151:=Tryz.func173.trans (congrArg some (by kernel_rfl))
 f152:=Tryz.func182.trans (congrArg some (by kernel_rfl))
 f217:=Tryz.func177.trans (congrArg some (by kernel_rfl))
 f224:=Tryz.func179.trans (congrArg some (by kernel_rfl))
 f225:=Tryz.func178.trans (congrArg some (by kernel_rfl))
 f266:=Tryz.func183.trans (congrArg some (by kernel_rfl))
 t0:=Tryz.underlying0
 a0:=Tryz.isAgg0
 z0:=Tryz.sizeOf0
 v0:=Tryz.zeroValue0
 t3:=Tryz.underlying3
 a3:=Tryz.isAgg3
 z3:=Tryz.sizeOf3
 v3:=Tryz.zeroValue3
 t4:=Tryz.underlying4
 a4:=Tryz.isAgg4
 z4:=Tryz.sizeOf4
 v4:=Tryz.zeroValue4
 t5:=Tryz.underlying5
 a5:=Tryz.isAgg5
 z5:=Tryz.sizeOf5
 v5:=Tryz.zeroValue5
 t9:=Tryz.underlying9
 a9:=Tryz.isAgg9
 z9:=Tryz.sizeOf9
 v9:=Tryz.zeroValue9
 t21:=Tryz.underlying21
 a21:=Tryz.isAgg21
 z21:=Tryz.sizeOf21
 v21:=Tryz.zeroValue21
 t46:=Tryz.underlying92
 a46:=Tryz.isAgg92
 z46:=Tryz.sizeOf92
 v46:=Tryz.zeroValue92 }
open Go.RowKit Go.Lib in
theorem Tryz.strings_ContainsRune_ascii (s:ByteArray) (r:Int) (w:World) (h0:0≤r) (h1:r<128):
  Calls Tryz.prog 173 #[.string s, .int .i32 r] w fun e w'=>e= .returned (.bool (decide (0≤Lib.indexByte s.data.toList r.toNat.toUInt8)))∧w'=w:=Any.strings_ContainsRune_ascii Tryz.lays151 s r w h0 h1
end Go.Proofs
set_option maxRecDepth 100000
set_option maxHeartbeats 400000
namespace Go.Proofs.YtlcidkiplidamaaGreatDoor
open Go Go.RowKit Lib
theorem wpl_next_any {P:Program} {W:World} {ops:Array Oper} {rest:List Oper} {o:Oper} {a:Act} {Q:Exit→Act→World→Prop} {x:Operand} (hop:o.op= .next x true) (hgd:o.guard=none)
  {k:Nat} {s:ByteArray} {pos:Nat} (hx:a.eval x= .pointer (some ⟨k,0,none⟩)) (hk:W.heap[k]?=some (.stringIter s pos)) (hlt:pos<s.size)
  (h: ∀W':World,W'.heap[k]?=some (.stringIter s (pos+(Utf8.decode s pos).2))→(∀b,W'.cell? b=W.cell? b)→(∀b,W'.frozen? b=W.frozen? b)→W'.heap.size=W.heap.size→(∀j,j≠k→W'.heap[j]?=W.heap[j]?)→Hid (Below k W W')→
   wpList P ops Q rest (a.put o.dst (.tuple #[.bool true, .int .i64 pos, .int .i32 (Utf8.decode s pos).1])) W'):wpList P ops Q (o::rest) a W:=by
 refine wpList_plain hgd fun K hK=> ?_
 have hr:=run_next_any_at (P:=P) W k s pos o.type hk hlt
 unfold Oper.wp execOp
 simp only [hop,hx,hr,Sem.run_bind,Result.andThen_ok,Sem.run_pure]
 exact hK _ _ (h (W.iterAt k s (pos+(Utf8.decode s pos).2)) (iterAt_heap W k s pos _ hk) (iterAt_cell W k s pos _ hk) (iterAt_frozen W k s pos _ hk) (iterAt_size W k s _) (fun j hj=>iterAt_other W k j s _ hj) (below_iterAt (Below.refl _ _) (Nat.le_refl _) _ _))
def goodB (wo:List UInt8) (c:UInt8):Bool:=decide (33≤c.toNat)&&decide (c.toNat≤126)&& !decide (0≤Lib.indexByte wo c)
def lettersB (wo l:List UInt8):Bool:=l.all (goodB wo)&& !l.isEmpty&&decide (l.length≤255)
theorem letters_bad {wo l:List UInt8} {j:Nat} {b:UInt8} (h:l[j]?=some b) (hb:goodB wo b=false):lettersB wo l=false:=by
 have:l.all (goodB wo)=false:=by
  rw [List.all_eq_false]
  exact⟨b,List.mem_of_getElem? h,by simp [hb]⟩
 simp [lettersB,this]
theorem byte_list {s:ByteArray} {j:Nat} (h:j<s.size):s.data.toList[j]?=some (s[j]'h):=by
 have hl:s.data.toList.length=s.size:=by simp
 rw [List.getElem?_eq_getElem (by omega)]
 rfl
theorem letters_any (s wo:ByteArray) (w:World) (hm:s.size≤9223372036854775807):
  Calls Tryz.prog 155 #[.string s, .string wo] w fun e w'=>e= .returned (.bool (lettersB wo.data.toList s.data.toList))∧Below w.heap.size w w':=by
 go_enter Tryz.func155,Tryz.ntmps155
 go_wp2_with fail
 go_loopw [6] (fun _ wr=> ∃j:Nat,j≤s.size∧wr.heap[w.heap.size]?=some (.stringIter s j)∧(∀i,i<j→ ∀b,s.data.toList[i]?=some b→goodB wo.data.toList b=true)∧Hid (Below w.heap.size w wr)) (fun _ wr=>s.size - wr.iterPos w.heap.size)
 case atStart=>exact⟨0,by omega,by first|exact World.iter_heap w s 0|simp [World.iter],fun i hi=>absurd hi (by omega),by first|exact(Below.refl _ _).alloc (Nat.le_refl _) _|exact Lib.hid ((Below.refl _ _).alloc (Nat.le_refl _) _)⟩
 case round=>
  obtain⟨j,hj,hk,hgood,HB⟩:=hrel
  have hkl:w.heap.size<wr.heap.size:=by
   rcases Nat.lt_or_ge w.heap.size wr.heap.size with h|h
   ·exact h
   ·rw [Array.getElem?_eq_none h] at hk
    cases hk
  by_cases hlt:j<s.size
  ·obtain⟨b,hb⟩: ∃b,b=s[j]'hlt:=⟨_,rfl⟩
   have hbl:s.data.toList[j]?=some b:=by rw [byte_list hlt,hb]
   have hb2:=b.toNat_lt
   have hhigh0:128≤b.toNat→128≤(Utf8.decode s j).1:=fun h=> (decode_high s j hlt (by rw [←hb];exact h)).1
   clear hb
   by_cases h128:b.toNat<128
   ·by_cases h33:b.toNat<33
    ·have hbad:=letters_bad (wo:=wo.data.toList) hbl (by simp [goodB];omega)
     have h33':(b.toNat:Int) <33:=by omega
     go_wp2_with (refine wpl_next rfl rfl rfl hk b.toNat (by rw [hbl];simp) h128 ?_;intro W1 hk1 hc1 hf1 hs1 hh1 hn1;clear hh1)
     go_ret
     exact⟨by first| (rw [hbad];rfl) |rfl,HB.out.trans (hn1.out)⟩
    ·by_cases h126:126<b.toNat
     ·have hbad:=letters_bad (wo:=wo.data.toList) hbl (by simp [goodB];omega)
      have h33': ¬(b.toNat:Int) <33:=by omega
      have h126':(126:Int) <b.toNat:=by omega
      go_wp2_with (refine wpl_next rfl rfl rfl hk b.toNat (by rw [hbl];simp) h128 ?_;intro W1 hk1 hc1 hf1 hs1 hh1 hn1;clear hh1)
      go_ret
      exact⟨by first| (rw [hbad];rfl) |rfl,HB.out.trans (hn1.out)⟩
     ·have h33': ¬(b.toNat:Int) <33:=by omega
      have h126': ¬(126:Int) <b.toNat:=by omega
      obtain⟨H,hH⟩: ∃H,H=decide (0≤Lib.indexByte wo.data.toList b):=⟨_,rfl⟩
      have HC: ∀W,Calls Tryz.prog 173 #[.string wo, .int .i32 b.toNat] W fun e w'=>e= .returned (.bool H)∧w'=W:=fun W=>by
       have:=Tryz.strings_ContainsRune_ascii wo b.toNat W (by omega) (by omega)
       rw [Int.toNat_natCast,show b.toNat.toUInt8=b from UInt8.ofNat_toNat, ←hH] at this
       exact this
      have HC':=Lib.hid HC
      have HH:=Lib.hid hH
      clear HC hH
      cases H
      ·go_wp2_with (first| (refine wpl_next rfl rfl rfl hk b.toNat (by rw [hbl];simp) h128 ?_;intro W1 hk1 hc1 hf1 hs1 hh1 hn1;clear hh1) | (go_at_call 173;refine(HC'.out _).mono ?_;rintro e w2 ⟨rfl,rfl⟩))
       go_roundw
       case rel=>
        refine⟨j+1,by omega,hk1,fun i hi c hc=> ?_,Lib.hid (HB.out.trans hn1.out)⟩
        by_cases hij:i=j
        ·subst hij
         rw [hbl] at hc
         injection hc with hc
         subst hc
         simp [goodB, ←HH.out]
         omega
        ·exact hgood i (by omega) c hc
       case measure=>
        simp only [World.iterPos,hk1,hk]
        omega
      ·have hbad:=letters_bad (wo:=wo.data.toList) hbl (by simp [goodB, ←HH.out])
       go_wp2_with (first| (refine wpl_next rfl rfl rfl hk b.toNat (by rw [hbl];simp) h128 ?_;intro W1 hk1 hc1 hf1 hs1 hh1 hn1;clear hh1) | (go_at_call 173;refine(HC'.out _).mono ?_;rintro e w2 ⟨rfl,rfl⟩))
       go_ret
       exact⟨by first| (rw [hbad];rfl) |rfl,HB.out.trans (hn1.out)⟩
   ·have hbad:=letters_bad (wo:=wo.data.toList) hbl (by simp [goodB];omega)
    have hhigh:=hhigh0 (by omega)
    obtain⟨r,hr⟩: ∃r,r=(Utf8.decode s j).1:=⟨_,rfl⟩
    rw [←hr] at hhigh
    clear hhigh0
    have h33': ¬r<33:=by omega
    have h126':126<r:=by omega
    have hdec:(Utf8.decode s j).1=r:=hr.symm
    clear hr
    go_wp2_with (refine wpl_next_any rfl rfl rfl hk hlt ?_;rw [hdec];intro W1 hk1 hc1 hf1 hs1 hh1 hn1;clear hh1)
    go_ret
    exact⟨by first| (rw [hbad];rfl) |rfl,HB.out.trans (hn1.out)⟩
  ·have hall:s.data.toList.all (goodB wo.data.toList)=true:=by
    rw [List.all_eq_true]
    intro b hb
    obtain⟨i,hi⟩:=List.mem_iff_getElem?.1 hb
    have hl:s.data.toList.length=s.size:=by simp
    have:=(List.getElem?_eq_some_iff.1 hi).1
    exact hgood i (by omega) b hi
   have h255:s.size≤255∨ ¬s.size≤255:=by omega
   rcases h255 with h255|h255
   all_goals go_wp2_with (refine wpl_next_end rfl rfl rfl hk (by simp;omega) ?_)
   all_goals go_ret
   all_goals refine⟨?_,HB.out⟩
   all_goals
    show Ending.returned (.bool _)=_
    have ht:s.toList=s.data.toList:=by cases s;exact ByteArray.toList_mk _
    have hsz:s.data.toList.length=s.size:=by simp
    congr 2
    rw [lettersB,hall,hsz]
    cases hs:s.data.toList<;>simp_all<;> (try omega)
def slashB:UInt8→List UInt8→Bool
 |last, []=> !(last==47)
 |last,c::l=> !(c==47&&last==47)&&slashB c l
def classB (l:List UInt8):Bool:=lettersB [46,59,91] l&&slashB 47 l
theorem slash_step {l:List UInt8} {j:Nat} {b lb:UInt8} (h:l[j]?=some b):slashB lb (l.drop j)=(!(b==47&&lb==47)&&slashB b (l.drop (j+1))):=by
 have hj:=(List.getElem?_eq_some_iff.1 h).1
 have he:=(List.getElem?_eq_some_iff.1 h).2
 rw [List.drop_eq_getElem_cons hj,he]
 rfl
theorem class_any (s:ByteArray) (w:World) (hm:s.size≤9223372036854775807):
  Calls Tryz.prog 77 #[.string s] w fun e w'=>e= .returned (.bool (classB s.data.toList))∧Below w.heap.size w w':=by
 have HLT: ∀W,Calls Tryz.prog 155 #[.string s, .string ⟨#[46,59,91]⟩] W fun e w'=>e= .returned (.bool (lettersB [46,59,91] s.data.toList))∧Below W.heap.size W w':=fun W=>letters_any s ⟨#[46,59,91]⟩ W hm
 have HL':=Lib.hid HLT
 clear HLT
 by_cases hlet:lettersB [46,59,91] s.data.toList=true
 ·have hall: ∀b∈s.data.toList,goodB [46,59,91] b=true:=by
   simp only [lettersB,Bool.and_eq_true] at hlet
   exact List.all_eq_true.1 hlet.1.1
  rw [hlet] at HL'
  have HLET:=Lib.hid hlet
  have HALL:=Lib.hid hall
  clear hlet hall
  go_enter Tryz.func77,Tryz.ntmps77
  go_wp2_with (go_at_call 155;refine(HL'.out _).mono ?_;rintro e w1 ⟨rfl,hb1⟩;have HB1:=Lib.hid hb1;clear hb1)
  have hz1:=HB1.out.size
  go_loopw [3,5] (fun la _ wr=> ∃(j:Nat) (lb:UInt8),la= .int .i32 lb.toNat∧j≤s.size∧wr.heap[w1.heap.size]?=some (.stringIter s j)∧Hid (slashB 47 s.data.toList=slashB lb (s.data.toList.drop j))∧Hid (Below w.heap.size w wr)) (fun _ _ wr=>s.size - wr.iterPos w1.heap.size)
  case atStart=>exact⟨0,47,rfl,by omega,by first|exact World.iter_heap w1 s 0|simp [World.iter],by first|exact rfl|exact Lib.hid rfl,by first|exact HB1.out.alloc hz1 _|exact Lib.hid (HB1.out.alloc hz1 _)⟩
  case round=>
   obtain⟨j,lb,rfl,hj,hk,HS,HB⟩:=hrel
   have hlb:=lb.toNat_lt
   by_cases hlt:j<s.size
   ·obtain⟨b,hb⟩: ∃b,b=s[j]'hlt:=⟨_,rfl⟩
    have hbl:s.data.toList[j]?=some b:=by rw [byte_list hlt,hb]
    have hg:=HALL.out b (List.mem_of_getElem? hbl)
    simp only [goodB,Bool.and_eq_true,decide_eq_true_eq] at hg
    have h128:b.toNat<128:=by omega
    have HST:=Lib.hid (slash_step (lb:=lb) hbl)
    clear hb hg
    by_cases h47:b.toNat=47
    ·have hbb:b=47:=UInt8.toNat_inj.1 h47
     subst hbb
     by_cases hl47:lb.toNat=47
     ·have hlb2:lb=47:=UInt8.toNat_inj.1 hl47
      subst hlb2
      go_wp2_with (refine wpl_next rfl rfl rfl hk 47 (by rw [hbl];rfl) (by omega) ?_;intro W1 hk1 hc1 hf1 hs1 hh1 hn1;clear hh1)
      go_ret
      refine⟨?_,HB.out.trans (hn1.out.mono hz1)⟩
      have e:classB s.data.toList=false:=by simp [classB,HS.out,HST.out]
      first| (rw [e];rfl) | (simp [e])
     ·have e1:((lb.toNat:Int)==47)=false:=by simp;omega
      go_wp2_with (refine wpl_next rfl rfl rfl hk 47 (by rw [hbl];rfl) (by omega) ?_;intro W1 hk1 hc1 hf1 hs1 hh1 hn1;clear hh1)
      go_roundw
      case rel=>
       refine⟨j+1,47,rfl,by omega,hk1,Lib.hid ?_,Lib.hid (HB.out.trans (hn1.out.mono hz1))⟩
       rw [HS.out,HST.out]
       have:(lb==47)=false:=by
        rw [beq_eq_false_iff_ne]
        intro e
        subst e
        exact hl47 rfl
       simp [this]
      case measure=>
       simp only [World.iterPos,hk1,hk]
       omega
    ·have e1:((b.toNat:Int)==47)=false:=by simp;omega
     go_wp2_with (refine wpl_next rfl rfl rfl hk b.toNat (by rw [hbl];simp) h128 ?_;intro W1 hk1 hc1 hf1 hs1 hh1 hn1;clear hh1)
     go_roundw
     case rel=>
      refine⟨j+1,b,rfl,by omega,hk1,Lib.hid ?_,Lib.hid (HB.out.trans (hn1.out.mono hz1))⟩
      rw [HS.out,HST.out]
      have:(b==47)=false:=by
       rw [beq_eq_false_iff_ne]
       intro e
       subst e
       exact h47 rfl
      simp [this]
     case measure=>
      simp only [World.iterPos,hk1,hk]
      omega
   ·go_wp2_with (refine wpl_next_end rfl rfl rfl hk (by simp;omega) ?_)
    go_ret
    refine⟨?_,HB.out⟩
    show Ending.returned (.bool _)=_
    congr 2
    have hd:s.data.toList.drop j= []:=List.drop_of_length_le (by simp;omega)
    rw [classB,HLET.out,HS.out,hd]
    show((lb.toNat:Int) !=47)=_
    by_cases h47:lb=47
    ·subst h47
     rfl
    ·have h1:lb.toNat≠47:=fun e=>h47 (UInt8.toNat_inj.1 e)
     have h2:(lb==47)=false:=by rw [beq_eq_false_iff_ne];exact h47
     simp [slashB,h2]
     omega
 ·have hf:lettersB [46,59,91] s.data.toList=false:=by simpa using hlet
  have hc:classB s.data.toList=false:=by simp [classB,hf]
  rw [hf] at HL'
  clear hf hlet
  go_enter Tryz.func77,Tryz.ntmps77
  go_wp2_with (go_at_call 155;refine(HL'.out _).mono ?_;rintro e w1 ⟨rfl,hb1⟩;have HB1:=Lib.hid hb1;clear hb1)
  go_ret
  exact⟨by first| (rw [hc];rfl) |rfl,HB1.out⟩
end Go.Proofs.YtlcidkiplidamaaGreatDoor
