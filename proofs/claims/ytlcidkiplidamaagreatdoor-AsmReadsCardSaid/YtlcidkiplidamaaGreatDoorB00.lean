/-
  What the laws rest on, part 0: walks of the program's functions and plain laws. Conditions: none but those that each theorem names.
-/
import Derived.Test.YtlcidkiplidamaaGreatDoorRows
import Derived.WalkKit
import Derived.WalkSpells
import Derived.WalkLawsBesides
import Derived.Lib.Hide
import Derived.Lib.OthersKept
import Derived.Maps.AppendAt
import Derived.Deep.AppendLies
import Derived.Maps.OwnSet
import Derived.Maps.OwnOps
import Derived.Laws.BytesArg
import Derived.StillTailTactics
import Derived.Deep.QuietTactic
import Derived.BigQuiet
import Derived.Deep.RegionLaw
import Derived.Shelf.Small.Utf8
import Derived.Shelf.Small.Strs
import Derived.Shelf.Strings.Search1
import Derived.Shelf.Strings.Search2
import Derived.Shelf.Strings.Search3
import Derived.Shelf.Strings.Count
import Derived.Shelf.LaysM
import Derived.Shelf.Strings.Shaped
import Derived.Shelf.Strings.Prefix
import Derived.Shelf.Strings.Runes
import Derived.Shelf.Unicode.DecodeSlow
import Derived.Test.YtlcidkiplidamaaGreatDoorProg
theorem Go.Proofs.YtlcidkiplidamaaGreatDoor.Hq{p:Prop}(h:p):Go.RowKit.Hid p:=Go.Lib.hid h
set_option linter.unusedSimpArgs false
set_option linter.unusedVariables false
namespace Go.Proofs.YtlcidkiplidamaaGreatDoor
open Go Go.RowKit
theorem bqT {P:Program} {t e n:Nat} {d:TypeDesc} {z:Value} {b:Nat} (ht:P.underlying t=some (.array n e)) (hd:P.underlying e=some d)
  (hna:(match d with| .struct _=>true| .array _ _=>true|_=>false)=false) (hi:(P.info? e).map (fun i=> (i.zero,i.size,i.bytes))=some (some z,1,b))
  (w:World) (k:IntKind) (cs:Array Value) (x:Int) (h0:0≤x) (hx:x<n) (hs:cs.size=n):
  (Instr.index t (.agg cs) (.int k x)).run P w= .ok (cs.getD x.toNat undef) w:=by
 obtain⟨i,hi,_,h1,_⟩:=info_parts hi
 have hlt:x.toNat<cs.size:=by omega
 have hag:(isAgg e).run P w= .ok false w:=by
  simp only [isAgg,run_underlying hd,Sem.run_bind,Result.andThen]
  cases d<;>simp_all
 simp only [Instr.index,asIntOf,run_underlying ht,Sem.run_bind,Sem.run_pure,Result.andThen,h0,hx,and_self,if_true,sizeOf,typeInfo,hi,h1,Nat.mul_one,part,hag]
 simp [hi,hag,hlt,Array.getD,h1]
noncomputable def runList (P:Program) (ops:Array Oper):List Oper→Act→World→Option (Act×World)
 | [],a,w=>some (a,w)
 |o::rest,a,w=>
  match Region.wanted o (yielded ops a.tmps) with
  |true=>
   match(execOp a.eval o).run P w with
   | .ok (.value v) w'=>runList P ops rest (a.put o.dst v) w'
   | .ok .skip w'=>runList P ops rest (a.put o.dst undef) w'
   |_=>none
  |false=>runList P ops rest (a.put o.dst undef) w
theorem cqn {P:Program} {ops:Array Oper} {Q:Exit→Act→World→Prop}: ∀(l:List Oper) (a:Act) (w:World) (a':Act) (w':World),
  runList P ops l a w=some (a',w')→Q .normal a' w'→wpList P ops Q l a w
 | [],a,w,a',w',h,hq=>by
  simp only [runList,Option.some.injEq,Prod.mk.injEq] at h
  obtain⟨rfl,rfl⟩:=h
  exact hq
 |o::rest,a,w,a',w',h,hq=>by
  unfold runList at h
  unfold wpList
  split at h
  ·rename_i hw
   rw [if_pos hw]
   left
   unfold Oper.wp
   split at h
   ·rename_i v w1 hr
    rw [hr]
    exact cqn rest _ _ _ _ h hq
   ·rename_i w1 hr
    rw [hr]
    exact cqn rest _ _ _ _ h hq
   cases h
  rename_i hw
  rw [if_neg (by rw [hw];decide)]
  exact cqn rest _ _ _ _ h hq
theorem jqh {P:Program} {ops:Array Oper} {Q:Exit→Act→World→Prop} {l:List Oper} {a:Act} {w:World} (t:Tmp) (v:Value) (w':World)
  (h:(runList P ops l a w).map (fun r=> (r.1.tmps.getD t undef,r.1.defers,r.2))=some (v, [],w'))
  (hq: ∀a':Act,a'.tmps.getD t undef=v→a'.defers= []→Q .normal a' w'):wpList P ops Q l a w:=by
 obtain⟨⟨a',w1⟩,hr,he⟩:=Option.map_eq_some_iff.1 h
 simp only [Prod.mk.injEq] at he
 obtain⟨h1,h2,rfl⟩:=he
 exact cqn l a w a' w1 hr (hq a' h1 h2)
theorem oqX {W w1:World} (hb:Below W.heap.size W w1):(∀b o,b<W.heap.size→w1.cell? ⟨b,o,none⟩=W.cell? ⟨b,o,none⟩)∧(∀b o,b<W.heap.size→w1.frozen? ⟨b,o,none⟩=W.frozen? ⟨b,o,none⟩):=
 ⟨fun b o h=>hb.cell (p:=⟨b,o,none⟩) h,fun b o h=>hb.frozen (p:=⟨b,o,none⟩) h⟩
theorem eqw (w:World) (l:List Value) (t:TypeId): ∀j u,l[j]?=some u→(w.alloc (.cells l.toArray t)).cell? ((⟨w.heap.size,0,none⟩:Addr).add j)=some u:=by
 intro j u hj
 have e:((⟨w.heap.size,0,none⟩:Addr).add j)=⟨w.heap.size,j,none⟩:=by
  unfold Addr.add
  split<;>simp_all
 rw [e]
 unfold World.cell?
 rw [heap_alloc_new]
 simpa using hj
theorem bqG {P:Program} {w:World} {ops:Array Oper} {rest:List Oper} {o:Oper} {a:Act} {Q:Exit→Act→World→Prop} (hgd:o.guard=none) (s x:Operand) (t:TypeId)
  (ho:o.op= .call { callee:= .builtin .append,args:= #[s,x],argTypes:= #[t,t] }) {e:TypeId} {z:Value} {size bytes:Nat}
  (ht:P.underlying t=some (.slice e)) (hi:(P.info? e).map (fun i=> (i.zero,i.size,i.bytes))=some (some z,size,bytes)) (hzs:z.cells.size=size) (hsz:0<size)
  (base:Nat) {v:Value} {n:Nat} {xs:List Value} (hs:a.eval s=v) (hown:w.ownsRow base e size v n xs)
  {ad:Addr} {m c:Nat} {news:List Value} (hx:a.eval x= .slice (some ad) m c) (hl:news.length=m*size) (hnews: ∀j u,news[j]?=some u→w.cell? (ad.add j)=some u) (h1: ∀u∈news,u.oneCell'=true)
  (h63:n+m≤maxLen) (hbytes:(n+m)*bytes≤140737488355328) (hbase:base≤w.heap.size)
  (h: ∀v' w',w'.ownsRow base e size v' (n+m) (xs++news)→w.grownBy w' v.ownBlock→Below base w w'→wpList P ops Q rest (a.put o.dst v') w'):wpList P ops Q (o::rest) a w:=by
 obtain⟨i,hi,hz,hsize,hby⟩:=info_parts hi
 refine wpList_append_own w hgd s x t ho base e i z size bytes ht hi hz hsize hby hzs hsz v n xs hs hown ad m c news hx hl hnews h1 h63 hbytes hbase fun v' w' h2 h3 _=>h v' w' h2 h3 ?_
 exact(Below.refl _ _).grown h3 hbase fun k hk=> (hown.lt k hk).1
theorem aqR:(Tryz.prog.info? 9).map (fun i=> (i.zero,i.size,i.bytes))=some (some (.string ⟨#[]⟩),1,16):=by kernel_rfl
end Go.Proofs.YtlcidkiplidamaaGreatDoor
namespace Go.Proofs.YtlcidkiplidamaaGreatDoor
open Go Go.RowKit Lib
theorem fqs (w:World) (k:Nat) (s:ByteArray) (pos pos':Nat) (hk:w.heap[k]?=some (.stringIter s pos)) (a:Addr):(w.iterAt k s pos').cell? a=w.cell? a:=by
 by_cases h:a.block=k
 ·unfold World.cell?
  rw [h,iterAt_heap w k s pos pos' hk,hk]
 exact World.cell?_of_block (iterAt_other w k a.block s pos' h)
theorem eqx (w:World) (k:Nat) (s:ByteArray) (pos pos':Nat) (hk:w.heap[k]?=some (.stringIter s pos)) (a:Addr):(w.iterAt k s pos').frozen? a=w.frozen? a:=by
 by_cases h:a.block=k
 ·unfold World.frozen?
  rw [h,iterAt_heap w k s pos pos' hk,hk]
 exact World.frozen?_of_block (iterAt_other w k a.block s pos' h)
theorem far (x n:Nat) (h:x<n):x<n∧x<n+1∧x<n+1+1∧x<n+1+1+1∧ ¬x=n∧ ¬x=n+1∧ ¬x=n+1+1∧ ¬x=n+1+1+1∧ ¬n=x∧ ¬n+1=x∧ ¬n+1+1=x∧ ¬n+1+1+1=x:=by omega
theorem gq1 (w:World) (k:Nat) (hk:k=w.heap.size) (s:ByteArray) (pos:Nat):(w.iter s pos).heap[k]?=some (.stringIter s pos):=by
 subst hk
 exact World.iter_heap w s pos
theorem aqw {P:Program} {W:World} {ops:Array Oper} {rest:List Oper} {o:Oper} {a:Act} {Q:Exit→Act→World→Prop} {x:Operand} (hop:o.op= .next x true) (hgd:o.guard=none)
  {k:Nat} {s:ByteArray} {pos:Nat} (hx:a.eval x= .pointer (some ⟨k,0,none⟩)) (hk:W.heap[k]?=some (.stringIter s pos)) (c:Nat) (hc:s.data.toList[pos]?=some (UInt8.ofNat c)) (h1:c<128)
  (h: ∀W':World,W'.heap[k]?=some (.stringIter s (pos+1))→(∀b,W'.cell? b=W.cell? b)→(∀b,W'.frozen? b=W.frozen? b)→W'.heap.size=W.heap.size→(∀j,j≠k→W'.heap[j]?=W.heap[j]?)→Hid (Below k W W')→
   wpList P ops Q rest (a.put o.dst (.tuple #[.bool true, .int .i64 pos, .int .i32 c])) W'):wpList P ops Q (o::rest) a W:=by
 have hlt:pos<s.size:=by
  have:=(List.getElem?_eq_some_iff.1 hc).1
  simpa using this
 have hv:(s[pos]'hlt).toNat=c:=by
  have:=(List.getElem?_eq_some_iff.1 hc).2
  have e:s[pos]'hlt=s.data.toList[pos]'(by simpa using hlt):=rfl
  rw [e,this]
  simp [UInt8.toNat_ofNat]
  omega
 refine wpList_plain hgd fun K hK=> ?_
 have hr:=run_next_ascii_at (P:=P) W k s pos o.type hk hlt (by omega)
 unfold Oper.wp execOp
 simp only [hop,hx,hr,Sem.run_bind,Result.andThen_ok,Sem.run_pure]
 rw [hv]
 exact hK _ _ (h (W.iterAt k s (pos+1)) (iterAt_heap W k s pos _ hk) (fqs W k s pos _ hk) (eqx W k s pos _ hk) (iterAt_size W k s _) (fun j hj=>iterAt_other W k j s _ hj) (below_iterAt (Below.refl _ _) (Nat.le_refl _) _ _))
theorem aqJ {P:Program} {W:World} {ops:Array Oper} {rest:List Oper} {o:Oper} {a:Act} {Q:Exit→Act→World→Prop} {x:Operand} (hop:o.op= .next x true) (hgd:o.guard=none)
  {k:Nat} {s:ByteArray} {pos:Nat} (hx:a.eval x= .pointer (some ⟨k,0,none⟩)) (hk:W.heap[k]?=some (.stringIter s pos)) (hc:s.data.toList.length≤pos)
  (h:wpList P ops Q rest (a.put o.dst (.tuple #[.bool false])) W):wpList P ops Q (o::rest) a W:=by
 have hlt: ¬pos<s.size:=by
  have:s.data.toList.length=s.size:=by simp
  omega
 refine wpList_plain hgd fun K hK=> ?_
 have hr:=run_next_end_at (P:=P) W k s pos o.type hk hlt
 unfold Oper.wp execOp
 simp only [hop,hx,hr,Sem.run_bind,Result.andThen_ok,Sem.run_pure]
 exact hK _ _ h
theorem cq0 {P:Program} (w:World) (base:Nat) (t ty e:TypeId) (i:TypeInfo) (size:Nat) (ht:P.underlying t=some (.slice e)) (hi:P.info? e=some i)
  (v:Value) (n:Nat) (xs:List Value) (hown:w.ownsRow base e size v n xs) (c:Nat):(Builtin.append_ #[t,t] ty #[v, .slice none 0 c]).run P w= .ok v w:=by
 rcases hown.2 with⟨rfl,rfl⟩ | ⟨g,cap,cur,rfl,_,_,hnc,_⟩
 ·simp [Builtin.append_,run_underlying ht,sizeOf,typeInfo,hi,Builtin.lenOf,Builtin.firstCells]
 simp [Builtin.append_,run_underlying ht,sizeOf,typeInfo,hi,Builtin.lenOf,Builtin.firstCells,hnc,storeCells]
theorem aq5 {P:Program} {w:World} {ops:Array Oper} {rest:List Oper} {o:Oper} {a:Act} {Q:Exit→Act→World→Prop} (hgd:o.guard=none) (s x:Operand) (t:TypeId)
  (ho:o.op= .call { callee:= .builtin .append,args:= #[s,x],argTypes:= #[t,t] }) {e:TypeId} {z:Value} {size bytes:Nat}
  (ht:P.underlying t=some (.slice e)) (hi:(P.info? e).map (fun i=> (i.zero,i.size,i.bytes))=some (some z,size,bytes)) (hzs:z.cells.size=size) (hsz:0<size)
  (base:Nat) {v:Value} {n:Nat} {xs:List Value} (hs:a.eval s=v) (hown:w.ownsRow base e size v n xs)
  {A:Option Addr} {m c:Nat} {news:List Value} (hx:a.eval x= .slice A m c) (hl:news.length=m*size) (hnews:0<m→ ∃ad,A=some ad∧ ∀j u,news[j]?=some u→w.cell? (ad.add j)=some u) (h1: ∀u∈news,u.oneCell'=true)
  (hpos:0<n+m) (h63:n+m≤maxLen) (hbytes:(n+m)*bytes≤140737488355328) (hbase:base≤w.heap.size)
  (h: ∀g cap w',w'.ownsRow base e size (.slice (some ⟨g,0,none⟩) (n+m) cap) (n+m) (xs++news)→w.grownBy w' v.ownBlock→Below base w w'→(v.ownBlock=some g∨g=w.heap.size)→g<w'.heap.size→
   wpList P ops Q rest (a.put o.dst (.slice (some ⟨g,0,none⟩) (n+m) cap)) w'):wpList P ops Q (o::rest) a w:=by
 obtain⟨i,hi,hz,hsize,hby⟩:=info_parts hi
 have hrun: ∃v' w',(Builtin.append_ #[t,t] o.type #[v, .slice A m c]).run P w= .ok v' w'∧w'.ownsRow base e size v' (n+m) (xs++news)∧w.grownBy w' v.ownBlock∧(v'.ownBlock=v.ownBlock∨v'.ownBlock=some w.heap.size):=by
  rcases A with _|ad
  ·have hm:m=0:=by
    rcases Nat.eq_zero_or_pos m with h0|h0
    ·exact h0
    obtain⟨ad,h,_⟩:=hnews h0
    cases h
   subst hm
   have hn:news= []:=List.eq_nil_of_length_eq_zero (by simpa using hl)
   subst hn
   exact⟨v,w,cq0 w base t o.type e i size ht hi v n xs hown c,by simpa using hown,World.grownBy.refl w _, .inl rfl⟩
  have hcells: ∀j u,news[j]?=some u→w.cell? (ad.add j)=some u:=by
   intro j u hu
   rcases Nat.eq_zero_or_pos m with h0|h0
   ·subst h0
    have hn:news= []:=List.eq_nil_of_length_eq_zero (by simpa using hl)
    subst hn
    simp at hu
   obtain⟨ad',h,hc⟩:=hnews h0
   injection h with h
   subst h
   exact hc j u hu
  obtain⟨v',w',hrun,h2,h3,_,h5⟩:=run_append_own_at (P:=P) w base t o.type e i z size bytes ht hi hz hsize hby hzs hsz v n xs hown ad m c news hl hcells h1 h63 hbytes hbase
  exact⟨v',w',hrun,h2,h3,h5⟩
 obtain⟨v',w',hr,h2,h3,h5⟩:=hrun
 obtain⟨g,cap,rfl,hg,hlt⟩:=h2.form hpos
 refine wpList_plain hgd fun K hK=> ?_
 unfold Oper.wp execOp
 simp only [ho,resolve,invoke,builtin,Sem.run_bind,Sem.run_pure,Result.andThen_ok,List.map_toArray,List.map_cons,List.map_nil,hs,hx,hr]
 refine hK _ _ (h g cap w' h2 h3 ((Below.refl _ _).grown h3 hbase fun k hk=> (hown.lt k hk).1) ?_ hlt)
 rcases h5 with h5|h5
 ·exact .inl (by rw [←h5];rfl)
 exact .inr (by simpa [Value.ownBlock] using h5)
theorem cq7 (w:World) (xs:List Value) (e:TypeId) (base n:Nat) (hb:base≤w.heap.size) (hn:n=xs.length) (hm:n≤maxLen):
  (w.alloc (.cells xs.toArray e)).ownsRow base e 1 (.slice (some ⟨w.heap.size,0,none⟩) n n) n xs:=by
 subst hn
 refine⟨by simp, .inr ⟨w.heap.size,xs.length,xs.toArray,rfl,hb,heap_alloc_new w _,Nat.le_refl _,hm,by simp,by simp⟩⟩
def byt (l:List UInt8) (k:Nat):Nat:=(l.getD k 0).toNat
def bV (b:UInt8):Value:= .int .u8 b.toNat
theorem dqd (l:List UInt8): ∀u∈l.map bV,u.oneCell'=true:=by
 intro u hu
 obtain⟨_,_,rfl⟩:=List.mem_map.1 hu
 rfl
structure RdB (w:World) (A:Option Addr) (len cap:Nat) (l:List UInt8):Prop where
 hlen:len=l.length
 hle:len≤cap
 hmax:len≤9223372036854775807
 hat:0<len→ ∃b off,A=some ⟨b,off,none⟩∧b<w.heap.size∧ ∀i,i<len→w.cell? ⟨b,off+i,none⟩=some (.int .u8 (byt l i))
theorem RdB.below {w w':World} {A:Option Addr} {len cap:Nat} {l:List UInt8} (h:RdB w A len cap l) (hb:Below w.heap.size w w'):RdB w' A len cap l:=
 ⟨h.hlen,h.hle,h.hmax,fun h0=>by
  obtain⟨b,off,e,hlt,hc⟩:=h.hat h0
  exact⟨b,off,e,Nat.lt_of_lt_of_le hlt hb.size,fun i hi=> (hb.cell (p:=⟨b,off+i,none⟩) hlt).trans (hc i hi)⟩⟩
theorem RdB.alloc {w:World} {A:Option Addr} {len cap:Nat} {l:List UInt8} (h:RdB w A len cap l) (o:Obj):RdB (w.alloc o) A len cap l:=h.below ((Below.refl _ _).alloc (Nat.le_refl _) _)
theorem RdB.drewN {w:World} {A:Option Addr} {len cap:Nat} {l:List UInt8} (h:RdB w A len cap l) (n:Nat):RdB (w.drewN n) A len cap l:=h.below (below_drewN (Below.refl _ _) n)
theorem dqv (b off j:Nat):((⟨b,off,none⟩:Addr).add j)=⟨b,off+j,none⟩:=by
 unfold Addr.add
 split<;>simp_all
theorem bqq {w:World} {base:Nat} {e:TypeId} {size n m:Nat} {v:Value} {xs ys:List Value} (h:w.ownsRow base e size v n xs) (hn:n=m) (hx:xs=ys):w.ownsRow base e size v m ys:=by
 subst hn
 subst hx
 exact h
theorem iqI (l:List UInt8) (n i:Nat) (h:i<n):byt (l.take n) i=byt l i:=by
 unfold byt
 rw [List.getD_eq_getElem?_getD,List.getD_eq_getElem?_getD,List.getElem?_take,if_pos h]
theorem RdB.take {w:World} {A:Option Addr} {len cap:Nat} {l:List UInt8} (h:RdB w A len cap l) (n:Nat) (hn:n≤len):RdB w A n cap (l.take n):=
 ⟨by have:=h.hlen;rw [List.length_take];omega,by have:=h.hle;omega,by have:=h.hmax;omega,fun h0=>by
  obtain⟨b,off,e,hlt,hc⟩:=h.hat (by omega)
  exact⟨b,off,e,hlt,fun i hi=>by rw [iqI l n i hi];exact hc i (by omega)⟩⟩
def lenOf:Value→Nat
 | .slice _ n _=>n
 |_=>0
theorem aqp {w w':World} {base:Nat} {e:TypeId} {size n:Nat} {v:Value} {xs:List Value} (h:w.ownsRow base e size v n xs) (hk: ∀g,v.ownBlock=some g→w'.heap[g]?=w.heap[g]?):w'.ownsRow base e size v n xs:=by
 rcases h.2 with⟨rfl,h0⟩ | ⟨g,cap,cur,rfl,hb,hg,r⟩
 ·exact⟨h.1, .inl ⟨rfl,h0⟩⟩
 exact⟨h.1, .inr ⟨g,cap,cur,rfl,hb,(hk g rfl).trans hg,r⟩⟩
theorem aqd (w:World) (l:List Value) (t:TypeId) (k:Nat) (hk:k=w.heap.size): ∀j u,l[j]?=some u→(w.alloc (.cells l.toArray t)).cell? ((⟨k,0,none⟩:Addr).add j)=some u:=by
 subst hk
 exact eqw w l t
def Stop (p:Prop):Prop:=p
theorem aqa {p:Prop} (h:Stop p):p:=h
theorem aqb {p:Prop} (h:p):Stop p:=h
theorem aqY {w:World} {base:Nat} {e:TypeId} {size n g cap:Nat} {xs:List Value} (h:w.ownsRow base e size (.slice (some ⟨g,0,none⟩) n cap) n xs) {p:Addr} (hp:g≠p.block) (u:Value):
  (w.setCell p u).ownsRow base e size (.slice (some ⟨g,0,none⟩) n cap) n xs:=
 aqp h fun k hk=>by
  simp only [Value.ownBlock,Option.some.injEq] at hk
  subst hk
  exact Below.heap_setCell w p u _ hp
end Go.Proofs.YtlcidkiplidamaaGreatDoor
namespace Go.Proofs.YtlcidkiplidamaaGreatDoor
open Go Go.RowKit Lib Go.Maps
def nqX (v:Value):Option (DataW Value×List MemPlace):=some (.held v, [])
def eqS (w:World) (P:Program) (k:TypeId) (b n:Nat) (f:List UInt8→Option Value) (sz:Nat):Prop:=
 ∃D:DataW Value,w.ownsMap P k nqX b n D∧Maps.size D=sz∧(∀s z,D.atKey (.string s) z=((f s).map DataW.held).getD z)∧ ∀s,Maps.has D (.string s)=(f s).isSome
def fqh (f:List UInt8→Option Value) (k:List UInt8) (v:Value):List UInt8→Option Value:=fun s=>if s=k then some v else f s
theorem eqy (w:World) (P:Program) (k:TypeId):eqS (w.alloc (.map #[] 0)) P k w.heap.size 0 (fun _=>none) 0:=
 ⟨.map [],World.ownsMap_made _ _ _ _,rfl,fun _ _=>rfl,fun _=>rfl⟩
theorem eqS.lt {w:World} {P:Program} {k:TypeId} {b n sz:Nat} {f:List UInt8→Option Value} (h:eqS w P k b n f sz):b<w.heap.size:=by
 obtain⟨D,h,_⟩:=h
 exact h.lt
theorem eqS.keep {w w':World} {P:Program} {k:TypeId} {b n sz:Nat} {f:List UInt8→Option Value} (h:eqS w P k b n f sz) (hb:w'.heap[b]?=w.heap[b]?):eqS w' P k b n f sz:=by
 obtain⟨D,⟨es,clock,h1,h2⟩,r⟩:=h
 exact⟨D,⟨es,clock,hb.trans h1,h2⟩,r⟩
section
variable {P:Program} {w:World} {ops:Array Oper} {rest:List Oper} {o:Oper} {a:Act} {Q:Exit→Act→World→Prop} {k e t:TypeId} {b n sz:Nat} {f:List UInt8→Option Value}
theorem gqN {v z:Value} {x:Option Value} {ps:List MemPlace} (h:nqX v=some ((x.map DataW.held).getD (.held z),ps)):v=x.getD z:=by
 unfold nqX at h
 cases x<;>simp at h<;>simp [h.1]
theorem dqw (hg:o.guard=none) (m x:Operand) (hop:o.op=Op.lookup t m x true) (hk:P.underlying k=some .string) (ht:P.underlying t=some (.map k e)) {z:Value} (hz:(zeroValue e).run P w= .ok z w)
  (hm:a.eval m= .map (some b)) (h:eqS w P k b n f sz) {s:ByteArray} (hx:a.eval x= .string s) (hs:s.size≤maxLen)
  (hK:wpList P ops Q rest (a.put o.dst (.tuple #[(f s.data.toList).getD z, .bool (f s.data.toList).isSome])) w):wpList P ops Q (o::rest) a w:=by
 obtain⟨D,hown,_,hat,hh⟩:=h
 refine wpList_lookup_own_ok w hg m x t hop k e (string_keyed hk) ht nqX hz (.held z) [] rfl b n D hm hown (.string s) _ hx (Go.WideMaps.keyOf_string_mk hk hs) fun v ps hv=> ?_
 rw [hat] at hv
 rw [gqN hv,hh]
 exact hK
theorem hqO (hg:o.guard=none) (m x:Operand) (hop:o.op=Op.lookup t m x false) (hk:P.underlying k=some .string) (ht:P.underlying t=some (.map k e)) {z:Value} (hz:(zeroValue e).run P w= .ok z w)
  (hm:a.eval m= .map (some b)) (h:eqS w P k b n f sz) {s:ByteArray} (hx:a.eval x= .string s) (hs:s.size≤maxLen)
  (hK:wpList P ops Q rest (a.put o.dst ((f s.data.toList).getD z)) w):wpList P ops Q (o::rest) a w:=by
 obtain⟨D,hown,_,hat,hh⟩:=h
 obtain⟨v,ps,hrun,hv⟩:=hown.lookup (string_keyed hk) ht hz (R:=nqX) rfl (Go.WideMaps.keyOf_string_mk hk hs)
 rw [hat] at hv
 refine wpList_plain hg fun K' hK'=> ?_
 unfold Oper.wp
 simp [execOp,hop,hm,hx,hrun,Result.andThen]
 rw [gqN hv]
 exact hK' _ _ hK
theorem gqg {s k:List UInt8} (h:s≠k):Lit.string s≠Lit.string k:=fun e=>h (by injection e)
theorem gqO (hg:o.guard=none) (m x v:Operand) (hop:o.op=Op.mapUpdate t m x v) (hk:P.underlying k=some .string) (ht:P.underlying t=some (.map k e))
  (hm:a.eval m= .map (some b)) (h:eqS w P k b n f sz) (hn:n<maxLen) {s:ByteArray} (hx:a.eval x= .string s) (hs:s.size≤maxLen) {u:Value} (hv:a.eval v=u)
  (hK: ∀w',eqS w' P k b (n+1) (fqh f s.data.toList u) (if(f s.data.toList).isSome then sz else sz+1)→w.grownBy w' (some b)→wpList P ops Q rest (a.put o.dst undef) w'):wpList P ops Q (o::rest) a w:=by
 obtain⟨D,hown,hsz,hat,hh⟩:=h
 have ht':=hown.tidy (string_keyed hk)
 refine wpList_mapUpdate_in w hg m x v t hop k e (string_keyed hk) ht nqX b n D hm hown hn (.string s) u _ hx hv (Go.WideMaps.keyOf_string_mk hk hs) (.held u) [] rfl fun w' h1 h2=>hK w' ⟨_,h1, ?_, ?_, ?_⟩ h2.grown
 ·rw [size_put ht',hh,hsz]
 ·intro s' z
  unfold fqh
  by_cases hs':s'=s.data.toList
  ·subst hs'
   rw [atKey_put_same ht'.isMap (by simp [WideAt.IsKeyLit]),if_pos rfl]
   rfl
  rw [atKey_put_other (gqg hs'),if_neg hs',hat]
 intro s'
 unfold fqh
 by_cases hs':s'=s.data.toList
 ·subst hs'
  rw [has_put_same ht'.isMap (by simp [WideAt.IsKeyLit]),if_pos rfl]
  rfl
 rw [has_put_other (gqg hs'),if_neg hs',hh]
end
end Go.Proofs.YtlcidkiplidamaaGreatDoor
namespace Go.Proofs.YtlcidkiplidamaaGreatDoor
open Go Go.RowKit Lib
theorem hqP (l:List UInt8):strOfNums (l.map fun x=> (x.toNat:Int))=⟨l.toArray⟩:=by
 unfold strOfNums
 congr 1
 rw [List.map_map]
 congr 1
 conv=>rhs;rw [←List.map_id l]
 apply List.map_congr_left
 intro x _
 simp
theorem RdB.str {w:World} {A:Option Addr} {len cap:Nat} {l:List UInt8} (h:RdB w A len cap l):(convert 34 9 (.slice A len cap)).run Tryz.prog w= .ok (.string ⟨l.toArray⟩) w:=by
 rcases Nat.eq_zero_or_pos len with h0|h0
 ·have hl:l= []:=List.eq_nil_of_length_eq_zero (by have:=h.hlen;omega)
  subst hl
  subst h0
  rw [run_convert_bytes_string (P:=Tryz.prog) w 34 9 5 A 0 cap Tryz.underlying34 Tryz.underlying5 Tryz.underlying9]
  rcases A with _|a
  ·simp [Conv.bytesToString]
   rfl
  have:=run_bytesToString (P:=Tryz.prog) w a 0 cap [] (by simpa using run_loadCells_list (P:=Tryz.prog) w a [] (fun j v hj=>by simp at hj))
  rw [this]
  rfl
 obtain⟨b,off,rfl,_,hc⟩:=h.hat h0
 have:=run_convert_bytes_arg (P:=Tryz.prog) w 34 5 Tryz.underlying34 Tryz.underlying5 b off len cap (l.map fun x=> (x.toNat:Int)) (by simpa using h.hlen.symm) (fun i hi=>by
  rw [hc i hi]
  have hi2:i<l.length:=by have:=h.hlen;omega
  simp [byt,List.getD,List.getElem?_map,List.getElem?_eq_getElem hi2]) 9 Tryz.underlying9
 rw [this,hqP]
theorem RdB.part {w:World} {b off len cap:Nat} {l:List UInt8} (h:RdB w (some ⟨b,off,none⟩) len cap l) (p n:Nat) (hp:p+n≤len) (h1:0<n):RdB w (some ⟨b,off+p,none⟩) n (cap - p) ((l.drop p).take n):=by
 have h2:=h.hlen
 have h3:=h.hle
 have h4:=h.hmax
 refine⟨by simp;omega,by omega,by omega,fun _=> ?_⟩
 obtain⟨b',off',e,hlt,hc⟩:=h.hat (by omega)
 injection e with e
 injection e with e1 e2 e3
 subst e1
 subst e2
 refine⟨b,off+p,rfl,hlt,fun i hi=> ?_⟩
 rw [iqI _ _ _ hi,Nat.add_assoc,hc (p+i) (by omega)]
 congr 2
 unfold byt
 rw [List.getD_eq_getElem?_getD,List.getD_eq_getElem?_getD,List.getElem?_drop]
theorem RdB.addr {w:World} {A:Option Addr} {len cap:Nat} {l:List UInt8} (h:RdB w A len cap l) (h0:0<len): ∃b off,A=some ⟨b,off,none⟩∧b<w.heap.size:=by
 obtain⟨b,off,e,hlt,_⟩:=h.hat h0
 exact⟨b,off,e,hlt⟩
theorem wpl_own {P:Program} {w:World} {ops:Array Oper} {rest:List Oper} {o:Oper} {a:Act} {Q:Exit→Act→World→Prop} (hgd:o.guard=none) (s x:Operand) (t:TypeId)
  (ho:o.op= .call { callee:= .builtin .append,args:= #[s,x],argTypes:= #[t,t] }) {e:TypeId} {z:Value} {size bytes:Nat}
  (ht:P.underlying t=some (.slice e)) (hi:(P.info? e).map (fun i=> (i.zero,i.size,i.bytes))=some (some z,size,bytes)) (hzs:z.cells.size=size) (hsz:0<size)
  (base:Nat) {v:Value} {n:Nat} {xs:List Value} (hs:a.eval s=v) (hown:w.ownsRow base e size v n xs)
  {A:Option Addr} {m c:Nat} {news:List Value} (hx:a.eval x= .slice A m c) (hl:news.length=m*size) (hnews:0<m→ ∃ad,A=some ad∧ ∀j u,news[j]?=some u→w.cell? (ad.add j)=some u) (h1: ∀u∈news,u.oneCell'=true)
  (h63:n+m≤maxLen) (hbytes:(n+m)*bytes≤140737488355328) (hbase:base≤w.heap.size)
  (h: ∀v' w',w'.ownsRow base e size v' (n+m) (xs++news)→w.grownBy w' v.ownBlock→Below base w w'→wpList P ops Q rest (a.put o.dst v') w'):wpList P ops Q (o::rest) a w:=by
 rcases Nat.eq_zero_or_pos (n+m) with h0|hpos
 ·obtain⟨rfl,rfl⟩:n=0∧m=0:=by omega
  obtain⟨i,hi,hz,hsize,hby⟩:=info_parts hi
  have hn:news= []:=List.eq_nil_of_length_eq_zero (by simpa using hl)
  subst hn
  have hrun:(Builtin.append_ #[t,t] o.type #[v, .slice A 0 c]).run P w= .ok v w:=by
   rcases A with _|ad
   ·exact cq0 w base t o.type e i size ht hi v 0 xs hown c
   have hl0:(loadCells ad 0).run P w= .ok #[] w:=by simpa using run_loadCells_list (P:=P) w ad [] (fun j v hj=>by simp at hj)
   rcases hown.2 with⟨rfl,_⟩ | ⟨g,cap,cur,rfl,_,_,hnc,_⟩
   ·simp [Builtin.append_,run_underlying ht,sizeOf,typeInfo,hi,Builtin.lenOf,Builtin.firstCells,hl0,storeCells]
   simp [Builtin.append_,run_underlying ht,sizeOf,typeInfo,hi,Builtin.lenOf,Builtin.firstCells,hnc,hl0,storeCells]
  refine wpList_plain hgd fun K hK=> ?_
  unfold Oper.wp execOp
  simp only [ho,resolve,invoke,builtin,Sem.run_bind,Sem.run_pure,Result.andThen_ok,List.map_toArray,List.map_cons,List.map_nil,hs,hx,hrun]
  exact hK _ _ (h v w (by simpa using hown) (World.grownBy.refl w _) (Below.refl _ _))
 exact aq5 hgd s x t ho ht hi hzs hsz base hs hown hx hl hnews h1 hpos h63 hbytes hbase fun g cap w' h2 h3 h4 _ _=>h _ w' h2 h3 h4
theorem gqa {P:Program} {id:Nat} {Q:Exit→Act→World→Prop} {a:Act} {w:World} {l:List Oper} (n:Nat) (hm:P.follows .mixedOrders=true) (hB:Region.lexTailB .any l.toArray n=true)
  (h:wpStill P l.toArray (w.drewN 1) (fun a'=>wpList P l.toArray Q (l.drop n) a' (w.drewN 1)) (l.take n) a):(Code.region id l.toArray true).wp P Q a w:=wp_region_still_tail n hm hB h
theorem bqX {P:Program} {ops:Array Oper} {w:World} {Q:Act→Prop}: ∀(l:List Oper) (a:Act),wpQuiet P ops (fun x=>x=w) Q l a→wpStill P ops w Q l a
 | [],_,h=>h
 |o::rest,a,h=>by
  unfold wpQuiet at h
  unfold wpStill
  split at h
  ·rename_i hw
   rw [if_pos hw]
   obtain⟨v,h1,h2⟩:=h
   have h3:=h1 w rfl
   unfold Oper.quietAt at h3
   unfold Oper.still
   generalize (execOp a.eval o).run P w=r at h3⊢
   unfold Oper.quietUpon at h3
   unfold Oper.stillUpon
   split at h3
   ·obtain⟨rfl,rfl⟩:=h3
    exact⟨rfl,bqX rest _ h2⟩
   ·obtain⟨rfl,rfl⟩:=h3
    exact⟨rfl,bqX rest _ h2⟩
   ·exact⟨h3.1,v,h3.2,bqX rest _ h2⟩
   exact h3.elim
  rename_i hw
  rw [if_neg hw]
  exact bqX rest _ h
theorem cq8 {P:Program} {id:Nat} {Q:Exit→Act→World→Prop} {a:Act} {w:World} {l:List Oper} (n:Nat) (hm:P.follows .mixedOrders=true) (hB:Region.lexTailB .any l.toArray n=true)
  (h:wpQuiet P l.toArray (fun x=>x=w.drewN 1) (fun a'=>wpList P l.toArray Q (l.drop n) a' (w.drewN 1)) (l.take n) a):(Code.region id l.toArray true).wp P Q a w:=gqa n hm hB (bqX _ _ h)
section Floating
variable {P:Program} {Q:Exit→Act→World→Prop}
end Floating
end Go.Proofs.YtlcidkiplidamaaGreatDoor
namespace Go.Proofs.YtlcidkiplidamaaGreatDoor
open Go Go.RowKit Lib Go.Maps
structure But (B:Nat) (S:List Nat) (w w':World):Prop where
 os:w'.os=w.os
 tape:w'.tape=w.tape
 output:w'.output=w.output
 size:w.heap.size≤w'.heap.size
 block: ∀k,k<B→k∉S→w'.heap[k]?=w.heap[k]?
theorem But.of_below {B:Nat} {S:List Nat} {w w':World} (h:Below B w w'):But B S w w':=⟨h.os,h.tape,h.output,h.size,fun k hk _=>h.block k hk⟩
theorem But.below {B:Nat} {w w':World} (h:But B [] w w'):Below B w w':=⟨h.os,h.tape,h.output,h.size,fun k hk=>h.block k hk (by simp)⟩
theorem But.refl (B:Nat) (S:List Nat) (w:World):But B S w w:=⟨rfl,rfl,rfl,Nat.le_refl _,fun _ _ _=>rfl⟩
theorem But.trans {B:Nat} {S:List Nat} {a b c:World} (h:But B S a b) (k:But B S b c):But B S a c:=
 ⟨k.os.trans h.os,k.tape.trans h.tape,k.output.trans h.output,Nat.le_trans h.size k.size,fun i hi hs=> (k.block i hi hs).trans (h.block i hi hs)⟩
theorem But.mono {B B':Nat} {S S':List Nat} {w w':World} (h:But B S w w') (hB:B'≤B) (hS: ∀k,k<B'→k∈S→k∈S'):But B' S' w w':=
 ⟨h.os,h.tape,h.output,h.size,fun k hk hs=>h.block k (by omega) (fun hk'=>hs (hS k hk hk'))⟩
theorem But.grown {B:Nat} {S:List Nat} {a w w':World} {row:Option Nat} (h:But B S a w) (hg:w.grownBy w' row) (hB:B≤w.heap.size) (hr: ∀k,row=some k→k∈S∨B≤k):But B S a w':=
 h.trans ⟨hg.os,hg.tape,hg.output,hg.size,fun k hk hs=>hg.block k (by omega) (fun e=>by
  rcases hr k e.symm with h1|h1
  ·exact hs h1
  omega)⟩
theorem But.cell {B:Nat} {S:List Nat} {w w':World} (h:But B S w w') {p:Addr} (hp:p.block<B) (hs:p.block∉S):w'.cell? p=w.cell? p:=World.cell?_of_block (w:=w) (h.block p.block hp hs)
theorem But.frozen {B:Nat} {S:List Nat} {w w':World} (h:But B S w w') {p:Addr} (hp:p.block<B) (hs:p.block∉S):w'.frozen? p=w.frozen? p:=World.frozen?_of_block (w:=w) (h.block p.block hp hs)
theorem eqS.but {w w':World} {P:Program} {k:TypeId} {b n sz:Nat} {f:List UInt8→Option Value} (h:eqS w P k b n f sz) {B:Nat} {S:List Nat} (hb:But B S w w') (hB:b<B) (hs:b∉S):eqS w' P k b n f sz:=h.keep (hb.block b hB hs)
end Go.Proofs.YtlcidkiplidamaaGreatDoor
namespace Go.Proofs.YtlcidkiplidamaaGreatDoor
open Go Go.RowKit Lib
structure Ko where
 tag:Int
 text:ByteArray
 num:Int
 a:Int
 b:Int
def Ko.cells (k:Ko):List Value:= [.int .i64 k.tag, .string k.text, .int .i64 k.num, .int .i64 k.a, .int .i64 k.b]
structure aqB where
 acc:Int
 name:Int
 desc:Int
 value:Int
def aqB.cells (f:aqB):List Value:= [.int .i64 f.acc, .int .i64 f.name, .int .i64 f.desc, .int .i64 f.value]
structure bq2 where
 lo:Int
 hi:Int
 tgt:Int
 kind:Int
def bq2.cells (f:bq2):List Value:= [.int .i64 f.lo, .int .i64 f.hi, .int .i64 f.tgt, .int .i64 f.kind]
structure aqA where
 acc:Int
 name:Int
 desc:Int
 has:Bool
 stack:Int
 locals:Int
 code:List UInt8
 traps:List bq2
structure aqj where
 minor:Int
 major:Int
 pool:List Ko
 acc:Int
 this:Int
 sup:Int
 ifs:List Int
 flds:List aqB
 mths:List aqA
def cqX (w:World) (ok:Nat→Prop) (size n:Nat) (cells:List Value) (v:Value):Prop:=
 ∃A cap,v= .slice A n cap∧n≤cap∧n≤1048576∧cells.length=n*size∧(0<n→ ∃b off,A=some ⟨b,off,none⟩∧b<w.heap.size∧ok b∧ ∀j u,cells[j]?=some u→w.cell? ⟨b,off+j,none⟩=some u)
structure bqE (ok:Nat→Prop) (w w':World):Prop where
 size:w.heap.size≤w'.heap.size
 cell: ∀g,g<w.heap.size→ok g→ ∀o,w'.cell? ⟨g,o,none⟩=w.cell? ⟨g,o,none⟩
theorem bqE.of_but {ok:Nat→Prop} {S:List Nat} {w w':World} (h:But w.heap.size S w w') (hs: ∀g,ok g→g∉S):bqE ok w w':=
 ⟨h.size,fun g hg ho o=>h.cell (p:=⟨g,o,none⟩) hg (hs g ho)⟩
theorem bqE.of_below {ok:Nat→Prop} {w w':World} (h:Below w.heap.size w w'):bqE ok w w':=⟨h.size,fun g hg _ o=>h.cell (p:=⟨g,o,none⟩) hg⟩
theorem bqE.trans {ok:Nat→Prop} {a b c:World} (h:bqE ok a b) (k:bqE ok b c):bqE ok a c:=
 ⟨Nat.le_trans h.size k.size,fun g hg ho o=> (k.cell g (Nat.lt_of_lt_of_le hg h.size) ho o).trans (h.cell g hg ho o)⟩
theorem bqE.mono {ok ok':Nat→Prop} {w w':World} (h:bqE ok w w') (hs: ∀g,ok' g→ok g):bqE ok' w w':=⟨h.size,fun g hg ho o=>h.cell g hg (hs g ho) o⟩
theorem cqX.keep {w w':World} {ok:Nat→Prop} {size n:Nat} {cells:List Value} {v:Value} (h:cqX w ok size n cells v) (hk:bqE ok w w'):cqX w' ok size n cells v:=by
 obtain⟨A,cap,rfl,h1,h2,h3,h4⟩:=h
 refine⟨A,cap,rfl,h1,h2,h3,fun h0=> ?_⟩
 obtain⟨b,off,e,hlt,ho,hc⟩:=h4 h0
 exact⟨b,off,e,Nat.lt_of_lt_of_le hlt hk.size,ho,fun j u hu=> (hk.cell b hlt ho _).trans (hc j u hu)⟩
theorem cqX.mono {w:World} {ok ok':Nat→Prop} {size n:Nat} {cells:List Value} {v:Value} (h:cqX w ok size n cells v) (hs: ∀g,g<w.heap.size→ok g→ok' g):cqX w ok' size n cells v:=by
 obtain⟨A,cap,rfl,h1,h2,h3,h4⟩:=h
 refine⟨A,cap,rfl,h1,h2,h3,fun h0=> ?_⟩
 obtain⟨b,off,e,hlt,ho,hc⟩:=h4 h0
 exact⟨b,off,e,hlt,hs b hlt ho,hc⟩
theorem eqz (w:World) (ok:Nat→Prop) (size:Nat):cqX w ok size 0 [] (.slice none 0 0):=⟨none,0,rfl,Nat.le_refl _,by omega,by simp,fun h=>absurd h (by omega)⟩
theorem bqJ {w:World} {base:Nat} {e:TypeId} {size n:Nat} {v:Value} {xs:List Value} (h:w.ownsRow base e size v n xs) (ok:Nat→Prop) (hs:0<size) (hn:n≤1048576) (ho: ∀g,v.ownBlock=some g→ok g):cqX w ok size n xs v:=by
 rcases h.2 with⟨rfl,h0⟩ | ⟨g,cap,cur,rfl,hb,hg,hnc,hcm,hcs,hx⟩
 ·subst h0
  have hn0:xs= []:=by
   have hl:=h.1
   simp at hl
   exact hl
  subst hn0
  exact eqz w ok size
 exact⟨_,cap,rfl,hnc,hn,h.1,fun h0=> ⟨g,0,rfl,(h.lt g rfl).2,ho g rfl,fun j u hu=>by
  have hl:j<n*size:=by
   have:=(List.getElem?_eq_some_iff.1 hu).1
   have:=h.1
   omega
  rw [Nat.zero_add,h.cellAt j hl]
  exact hu⟩⟩
structure cqC (w:World) (ok:Nat→Prop) (m:aqA) (code traps:Value):Prop where
 hcode:cqX w ok 1 m.code.length (m.code.map bV) code
 htraps:cqX w ok 4 m.traps.length (m.traps.flatMap bq2.cells) traps
def aqA.cells (m:aqA) (code traps:Value):List Value:= [.int .i64 m.acc, .int .i64 m.name, .int .i64 m.desc, .bool m.has, .int .i64 m.stack, .int .i64 m.locals,code,traps]
def aq8 (ms:List (aqA×Value×Value)):List Value:=ms.flatMap fun m=>m.1.cells m.2.1 m.2.2
def aqj.cells (c:aqj) (pool ifs flds mths:Value):List Value:= [.int .i64 c.minor, .int .i64 c.major,pool, .int .i64 c.acc, .int .i64 c.this, .int .i64 c.sup,ifs,flds,mths]
structure aq9 (w:World) (ok:Nat→Prop) (c:aqj) (pool ifs flds mths:Value):Prop where
 hpool:cqX w ok 5 c.pool.length (c.pool.flatMap Ko.cells) pool
 hifs:cqX w ok 1 c.ifs.length (c.ifs.map (Value.int .i64)) ifs
 hflds:cqX w ok 4 c.flds.length (c.flds.flatMap aqB.cells) flds
 hmths: ∃ms:List (aqA×Value×Value),ms.map (·.1)=c.mths∧cqX w ok 8 c.mths.length (aq8 ms) mths∧ ∀m∈ms,cqC w ok m.1 m.2.1 m.2.2
theorem aq9.keep {w w':World} {ok:Nat→Prop} {c:aqj} {pool ifs flds mths:Value} (h:aq9 w ok c pool ifs flds mths) (hk:bqE ok w w'):aq9 w' ok c pool ifs flds mths where
 hpool:=h.hpool.keep hk
 hifs:=h.hifs.keep hk
 hflds:=h.hflds.keep hk
 hmths:=by
  obtain⟨ms,h1,h2,h3⟩:=h.hmths
  exact⟨ms,h1,h2.keep hk,fun m hm=> ⟨(h3 m hm).hcode.keep hk,(h3 m hm).htraps.keep hk⟩⟩
theorem aq9.mono {w:World} {ok ok':Nat→Prop} {c:aqj} {pool ifs flds mths:Value} (h:aq9 w ok c pool ifs flds mths) (hs: ∀g,g<w.heap.size→ok g→ok' g):aq9 w ok' c pool ifs flds mths where
 hpool:=h.hpool.mono hs
 hifs:=h.hifs.mono hs
 hflds:=h.hflds.mono hs
 hmths:=by
  obtain⟨ms,h1,h2,h3⟩:=h.hmths
  exact⟨ms,h1,h2.mono hs,fun m hm=> ⟨(h3 m hm).hcode.mono hs,(h3 m hm).htraps.mono hs⟩⟩
end Go.Proofs.YtlcidkiplidamaaGreatDoor
/-
 Pruned.
-/
/-
 The table of the instructions as plain data, and what it answers.
-/
namespace Go.Proofs.YtlcidkiplidamaaGreatDoor
def eqA:List (Int×List UInt8×List UInt8):= [
 (0, [110,111,112], []),
 (1, [97,99,111,110,115,116,95,110,117,108,108], []),
 (2, [105,99,111,110,115,116,95,109,49], []),
 (3, [105,99,111,110,115,116,95,48], []),
 (4, [105,99,111,110,115,116,95,49], []),
 (5, [105,99,111,110,115,116,95,50], []),
 (6, [105,99,111,110,115,116,95,51], []),
 (7, [105,99,111,110,115,116,95,52], []),
 (8, [105,99,111,110,115,116,95,53], []),
 (16, [98,105,112,117,115,104], [98]),
 (17, [115,105,112,117,115,104], [115]),
 (18, [108,100,99], [117]),
 (21, [105,108,111,97,100], [117]),
 (25, [97,108,111,97,100], [117]),
 (26, [105,108,111,97,100,95,48], []),
 (27, [105,108,111,97,100,95,49], []),
 (28, [105,108,111,97,100,95,50], []),
 (29, [105,108,111,97,100,95,51], []),
 (42, [97,108,111,97,100,95,48], []),
 (43, [97,108,111,97,100,95,49], []),
 (44, [97,108,111,97,100,95,50], []),
 (45, [97,108,111,97,100,95,51], []),
 (54, [105,115,116,111,114,101], [117]),
 (58, [97,115,116,111,114,101], [117]),
 (59, [105,115,116,111,114,101,95,48], []),
 (60, [105,115,116,111,114,101,95,49], []),
 (61, [105,115,116,111,114,101,95,50], []),
 (62, [105,115,116,111,114,101,95,51], []),
 (75, [97,115,116,111,114,101,95,48], []),
 (76, [97,115,116,111,114,101,95,49], []),
 (77, [97,115,116,111,114,101,95,50], []),
 (78, [97,115,116,111,114,101,95,51], []),
 (87, [112,111,112], []),
 (89, [100,117,112], []),
 (95, [115,119,97,112], []),
 (96, [105,97,100,100], []),
 (100, [105,115,117,98], []),
 (104, [105,109,117,108], []),
 (108, [105,100,105,118], []),
 (112, [105,114,101,109], []),
 (116, [105,110,101,103], []),
 (120, [105,115,104,108], []),
 (122, [105,115,104,114], []),
 (124, [105,117,115,104,114], []),
 (126, [105,97,110,100], []),
 (128, [105,111,114], []),
 (130, [105,120,111,114], []),
 (132, [105,105,110,99], [117,98]),
 (145, [105,50,98], []),
 (146, [105,50,99], []),
 (147, [105,50,115], []),
 (153, [105,102,101,113], [106]),
 (154, [105,102,110,101], [106]),
 (155, [105,102,108,116], [106]),
 (156, [105,102,103,101], [106]),
 (157, [105,102,103,116], [106]),
 (158, [105,102,108,101], [106]),
 (159, [105,102,95,105,99,109,112,101,113], [106]),
 (160, [105,102,95,105,99,109,112,110,101], [106]),
 (161, [105,102,95,105,99,109,112,108,116], [106]),
 (162, [105,102,95,105,99,109,112,103,101], [106]),
 (163, [105,102,95,105,99,109,112,103,116], [106]),
 (164, [105,102,95,105,99,109,112,108,101], [106]),
 (165, [105,102,95,97,99,109,112,101,113], [106]),
 (166, [105,102,95,97,99,109,112,110,101], [106]),
 (167, [103,111,116,111], [106]),
 (172, [105,114,101,116,117,114,110], []),
 (176, [97,114,101,116,117,114,110], []),
 (177, [114,101,116,117,114,110], []),
 (178, [103,101,116,115,116,97,116,105,99], [102]),
 (179, [112,117,116,115,116,97,116,105,99], [102]),
 (180, [103,101,116,102,105,101,108,100], [102]),
 (181, [112,117,116,102,105,101,108,100], [102]),
 (182, [105,110,118,111,107,101,118,105,114,116,117,97,108], [109]),
 (183, [105,110,118,111,107,101,115,112,101,99,105,97,108], [109]),
 (184, [105,110,118,111,107,101,115,116,97,116,105,99], [109]),
 (185, [105,110,118,111,107,101,105,110,116,101,114,102,97,99,101], [105]),
 (187, [110,101,119], [99]),
 (191, [97,116,104,114,111,119], []),
 (192, [99,104,101,99,107,99,97,115,116], [99]),
 (193, [105,110,115,116,97,110,99,101,111,102], [99]),
 (198, [105,102,110,117,108,108], [106]),
 (199, [105,102,110,111,110,110,117,108,108], [106])]
def aqc (c:Int):List UInt8×List UInt8:=
 match eqA.find? (fun r=>r.1==c) with
 |some r=>r.2
 |none=> ([], [])
theorem gqh {c:Int} (h: ∀r∈eqA,r.1≠c):aqc c=([], []):=by
 have:eqA.find? (fun r=>r.1==c)=none:=by
  rw [List.find?_eq_none]
  intro r hr
  simpa using h r hr
 unfold aqc
 rw [this]
def aqP (s:List UInt8):Int:=
 match eqA.find? (fun r=>r.2.1==s) with
 |some r=>r.1
 |none=> -1
theorem oqc:aqc 0=([110,111,112], []):=by rfl
theorem oqd:aqc 1=([97,99,111,110,115,116,95,110,117,108,108], []):=by rfl
theorem oqe:aqc 2=([105,99,111,110,115,116,95,109,49], []):=by rfl
theorem oqf:aqc 3=([105,99,111,110,115,116,95,48], []):=by rfl
theorem oqg:aqc 4=([105,99,111,110,115,116,95,49], []):=by rfl
theorem oqh:aqc 5=([105,99,111,110,115,116,95,50], []):=by rfl
theorem oqi:aqc 6=([105,99,111,110,115,116,95,51], []):=by rfl
theorem oqj:aqc 7=([105,99,111,110,115,116,95,52], []):=by rfl
theorem oqk:aqc 8=([105,99,111,110,115,116,95,53], []):=by rfl
theorem lq7:aqc 16=([98,105,112,117,115,104], [98]):=by rfl
theorem lq8:aqc 17=([115,105,112,117,115,104], [115]):=by rfl
theorem lq9:aqc 18=([108,100,99], [117]):=by rfl
theorem mqa:aqc 21=([105,108,111,97,100], [117]):=by rfl
theorem mqb:aqc 25=([97,108,111,97,100], [117]):=by rfl
theorem mqc:aqc 26=([105,108,111,97,100,95,48], []):=by rfl
theorem mqd:aqc 27=([105,108,111,97,100,95,49], []):=by rfl
theorem mqe:aqc 28=([105,108,111,97,100,95,50], []):=by rfl
theorem mqf:aqc 29=([105,108,111,97,100,95,51], []):=by rfl
theorem mqg:aqc 42=([97,108,111,97,100,95,48], []):=by rfl
theorem mqh:aqc 43=([97,108,111,97,100,95,49], []):=by rfl
theorem mqi:aqc 44=([97,108,111,97,100,95,50], []):=by rfl
theorem mqj:aqc 45=([97,108,111,97,100,95,51], []):=by rfl
theorem mqk:aqc 54=([105,115,116,111,114,101], [117]):=by rfl
theorem mql:aqc 58=([97,115,116,111,114,101], [117]):=by rfl
theorem mqm:aqc 59=([105,115,116,111,114,101,95,48], []):=by rfl
theorem mqn:aqc 60=([105,115,116,111,114,101,95,49], []):=by rfl
theorem mqo:aqc 61=([105,115,116,111,114,101,95,50], []):=by rfl
theorem mqp:aqc 62=([105,115,116,111,114,101,95,51], []):=by rfl
theorem mqq:aqc 75=([97,115,116,111,114,101,95,48], []):=by rfl
theorem mqr:aqc 76=([97,115,116,111,114,101,95,49], []):=by rfl
theorem mqs:aqc 77=([97,115,116,111,114,101,95,50], []):=by rfl
theorem mqt:aqc 78=([97,115,116,111,114,101,95,51], []):=by rfl
theorem kqi:aqc 153=([105,102,101,113], [106]):=by rfl
theorem kqj:aqc 154=([105,102,110,101], [106]):=by rfl
theorem kqk:aqc 155=([105,102,108,116], [106]):=by rfl
theorem kql:aqc 156=([105,102,103,101], [106]):=by rfl
theorem kqm:aqc 157=([105,102,103,116], [106]):=by rfl
theorem kqn:aqc 158=([105,102,108,101], [106]):=by rfl
theorem kqo:aqc 159=([105,102,95,105,99,109,112,101,113], [106]):=by rfl
theorem kqp:aqc 160=([105,102,95,105,99,109,112,110,101], [106]):=by rfl
theorem kqq:aqc 161=([105,102,95,105,99,109,112,108,116], [106]):=by rfl
theorem kqr:aqc 162=([105,102,95,105,99,109,112,103,101], [106]):=by rfl
theorem kqs:aqc 163=([105,102,95,105,99,109,112,103,116], [106]):=by rfl
theorem kqt:aqc 164=([105,102,95,105,99,109,112,108,101], [106]):=by rfl
theorem kqu:aqc 165=([105,102,95,97,99,109,112,101,113], [106]):=by rfl
theorem kqv:aqc 166=([105,102,95,97,99,109,112,110,101], [106]):=by rfl
theorem kqw:aqc 167=([103,111,116,111], [106]):=by rfl
end Go.Proofs.YtlcidkiplidamaaGreatDoor
namespace Go.Proofs
open Go.Shelf
def Tryz.lays137_ren:Go.Shelf.Ren:=⟨fun|137=>175|217=>177|266=>183|n=>n,fun|9=>9|5=>5|3=>3|n=>n,fun|n=>n⟩
theorem Tryz.lays137:Go.Proofs.Lays.n137 Tryz.prog Tryz.lays137_ren:={
 mixed:=by kernel_rfl
 f137:=Tryz.func175.trans (congrArg some (by kernel_rfl))
 f217:=Tryz.func177.trans (congrArg some (by kernel_rfl))
 f266:=Tryz.func183.trans (congrArg some (by kernel_rfl))
 t3:=Tryz.underlying3
 a3:=Tryz.isAgg3
 z3:=Tryz.sizeOf3
 v3:=Tryz.zeroValue3
 t5:=Tryz.underlying5
 a5:=Tryz.isAgg5
 z5:=Tryz.sizeOf5
 v5:=Tryz.zeroValue5
 t9:=Tryz.underlying9
 a9:=Tryz.isAgg9
 z9:=Tryz.sizeOf9
 v9:=Tryz.zeroValue9 }
open Go.RowKit in
theorem Tryz.strings_IndexByte (s:ByteArray) (c:Int) (w:World):
  Calls Tryz.prog 175 #[.string s, .int .u8 c] w fun e w'=>e= .returned (.int .i64 (Lib.indexByte s.data.toList c.toNat.toUInt8))∧w'=w:=Any.strings_IndexByte Tryz.lays137 s c w
def Tryz.lays144_ren:Go.Shelf.Ren:=⟨fun|144=>55|143=>123|219=>166|217=>177|225=>178|224=>179|267=>180|266=>183|314=>184|n=>n,fun|9=>9|4=>4|3=>3|5=>5|46=>92|146=>217|51=>216|n=>n,fun|1=>0|n=>n⟩
theorem Tryz.lays144:Go.Proofs.Lays.n144 Tryz.prog Tryz.lays144_ren:={
 mixed:=by kernel_rfl
 f143:=Tryz.func123.trans (congrArg some (by kernel_rfl))
 f144:=Tryz.func55.trans (congrArg some (by kernel_rfl))
 f217:=Tryz.func177.trans (congrArg some (by kernel_rfl))
 f219:=Tryz.func166.trans (congrArg some (by kernel_rfl))
 f224:=Tryz.func179.trans (congrArg some (by kernel_rfl))
 f225:=Tryz.func178.trans (congrArg some (by kernel_rfl))
 f266:=Tryz.func183.trans (congrArg some (by kernel_rfl))
 f267:=Tryz.func180.trans (congrArg some (by kernel_rfl))
 f314:=Tryz.func184.trans (congrArg some (by kernel_rfl))
 t3:=Tryz.underlying3
 a3:=Tryz.isAgg3
 z3:=Tryz.sizeOf3
 v3:=Tryz.zeroValue3
 t4:=Tryz.underlying4
 a4:=Tryz.isAgg4
 z4:=Tryz.sizeOf4
 v4:=Tryz.zeroValue4
 t5:=Tryz.underlying5
 a5:=Tryz.isAgg5
 z5:=Tryz.sizeOf5
 v5:=Tryz.zeroValue5
 t9:=Tryz.underlying9
 a9:=Tryz.isAgg9
 z9:=Tryz.sizeOf9
 v9:=Tryz.zeroValue9
 t46:=Tryz.underlying92
 a46:=Tryz.isAgg92
 z46:=Tryz.sizeOf92
 v46:=Tryz.zeroValue92
 t51:=Tryz.underlying216
 a51:=Tryz.isAgg216
 z51:=Tryz.sizeOf216
 v51:=Tryz.zeroValue216
 t146:=Tryz.underlying217
 a146:=Tryz.isAgg217
 z146:=Tryz.sizeOf217
 v146:=Tryz.zeroValue217
 g1:=by kernel_rfl }
open Go.RowKit Go.Lib in
theorem Tryz.strings_Contains_one (s:ByteArray) (c:UInt8) (w:World):
  Calls Tryz.prog 55 #[.string s, .string ⟨#[c]⟩] w fun e w'=>e= .returned (.bool (decide (0≤Lib.indexByte s.data.toList c)))∧w'=w:=Any.strings_Contains_one Tryz.lays144 s c w
def Tryz.lays99_ren:Go.Shelf.Ren:=⟨fun|99=>124|206=>167|n=>n,fun|9=>9|4=>4|3=>3|n=>n,fun|n=>n⟩
theorem Tryz.lays99:Go.Proofs.Lays.n99 Tryz.prog Tryz.lays99_ren:={
 mixed:=by kernel_rfl
 f99:=Tryz.func124.trans (congrArg some (by kernel_rfl))
 f206:=Tryz.func167.trans (congrArg some (by kernel_rfl))
 t3:=Tryz.underlying3
 a3:=Tryz.isAgg3
 z3:=Tryz.sizeOf3
 v3:=Tryz.zeroValue3
 t4:=Tryz.underlying4
 a4:=Tryz.isAgg4
 z4:=Tryz.sizeOf4
 v4:=Tryz.zeroValue4
 t9:=Tryz.underlying9
 a9:=Tryz.isAgg9
 z9:=Tryz.sizeOf9
 v9:=Tryz.zeroValue9 }
open Go.RowKit Go.Lib in
theorem Tryz.strings_HasPrefix (s p:ByteArray) (w:World):
  Calls Tryz.prog 124 #[.string s, .string p] w fun e w'=>e= .returned (.bool (Lib.hasPrefix s.data.toList p.data.toList))∧w'=w:=Any.strings_HasPrefix Tryz.lays99 s p w
def Tryz.lays151_ren:Go.Shelf.Ren:=⟨fun|151=>173|152=>182|137=>175|119=>185|224=>179|225=>178|217=>177|266=>183|n=>n,fun|9=>9|21=>21|4=>4|3=>3|5=>5|0=>0|46=>92|n=>n,fun|n=>n⟩
theorem Tryz.lays151:Go.Proofs.Lays.n151 Tryz.prog Tryz.lays151_ren:={
 mixed:=by kernel_rfl
 f119:=Tryz.func185.trans (congrArg some (by kernel_rfl))
 f137:=Tryz.func175.trans (congrArg some (by kernel_rfl))
 f151:=Tryz.func173.trans (congrArg some (by kernel_rfl))
 f152:=Tryz.func182.trans (congrArg some (by kernel_rfl))
 f217:=Tryz.func177.trans (congrArg some (by kernel_rfl))
 f224:=Tryz.func179.trans (congrArg some (by kernel_rfl))
 f225:=Tryz.func178.trans (congrArg some (by kernel_rfl))
 f266:=Tryz.func183.trans (congrArg some (by kernel_rfl))
 t0:=Tryz.underlying0
 a0:=Tryz.isAgg0
 z0:=Tryz.sizeOf0
 v0:=Tryz.zeroValue0
 t3:=Tryz.underlying3
 a3:=Tryz.isAgg3
 z3:=Tryz.sizeOf3
 v3:=Tryz.zeroValue3
 t4:=Tryz.underlying4
 a4:=Tryz.isAgg4
 z4:=Tryz.sizeOf4
 v4:=Tryz.zeroValue4
 t5:=Tryz.underlying5
 a5:=Tryz.isAgg5
 z5:=Tryz.sizeOf5
 v5:=Tryz.zeroValue5
 t9:=Tryz.underlying9
 a9:=Tryz.isAgg9
 z9:=Tryz.sizeOf9
 v9:=Tryz.zeroValue9
 t21:=Tryz.underlying21
 a21:=Tryz.isAgg21
 z21:=Tryz.sizeOf21
 v21:=Tryz.zeroValue21
 t46:=Tryz.underlying92
 a46:=Tryz.isAgg92
 z46:=Tryz.sizeOf92
 v46:=Tryz.zeroValue92 }
open Go.RowKit Go.Lib in
theorem Tryz.strings_ContainsRune_ascii (s:ByteArray) (r:Int) (w:World) (h0:0≤r) (h1:r<128):
  Calls Tryz.prog 173 #[.string s, .int .i32 r] w fun e w'=>e= .returned (.bool (decide (0≤Lib.indexByte s.data.toList r.toNat.toUInt8)))∧w'=w:=Any.strings_ContainsRune_ascii Tryz.lays151 s r w h0 h1
end Go.Proofs
