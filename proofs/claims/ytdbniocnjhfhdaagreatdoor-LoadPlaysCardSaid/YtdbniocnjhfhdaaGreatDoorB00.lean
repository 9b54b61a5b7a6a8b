/- Part 0 of what the laws rest on: walks. Conditions: those that each theorem names. -/
import Derived.Test.YtdbniocnjhfhdaaGreatDoorRows
import Derived.WalkSpells
import Derived.WalkLawsBesides
import Derived.Lib.Hide
import Derived.Deep.AppendLies
import Derived.StillTailTactics
import Derived.BigQuiet
import Derived.Deep.RegionLaw
theorem Go.Proofs.YtdbniocnjhfhdaaGreatDoor.Hq{p:Prop}(h:p):Go.RowKit.Hid p:=Go.Lib.hid h
set_option linter.unusedSimpArgs false
set_option linter.unusedVariables false
namespace Go.Proofs.YtdbniocnjhfhdaaGreatDoor
open Go Go.RowKit
noncomputable def runList (P:Program) (ops:Array Oper):List Oper→Act→World→Option (Act×World)
 | [],a,w=>some (a,w)
 |o::rest,a,w=>
  match Region.wanted o (yielded ops a.tmps) with
  |true=>
   match(execOp a.eval o).run P w with
   | .ok (.value v) w'=>runList P ops rest (a.put o.dst v) w'
   | .ok .skip w'=>runList P ops rest (a.put o.dst undef) w'
   |_=>none
  |false=>runList P ops rest (a.put o.dst undef) w
theorem cqr {P:Program} {ops:Array Oper} {Q:Exit→Act→World→Prop}: ∀(l:List Oper) (a:Act) (w:World) (a':Act) (w':World),
  runList P ops l a w=some (a',w')→Q .normal a' w'→wpList P ops Q l a w
 | [],a,w,a',w',h,hq=>by
  simp only [runList,Option.some.injEq,Prod.mk.injEq] at h
  obtain⟨rfl,rfl⟩:=h
  exact hq
 |o::rest,a,w,a',w',h,hq=>by
  unfold runList at h
  unfold wpList
  split at h
  ·rename_i hw
   rw [if_pos hw]
   left
   unfold Oper.wp
   split at h
   ·rename_i v w1 hr
    rw [hr]
    exact cqr rest _ _ _ _ h hq
   ·rename_i w1 hr
    rw [hr]
    exact cqr rest _ _ _ _ h hq
   cases h
  rename_i hw
  rw [if_neg (by rw [hw];decide)]
  exact cqr rest _ _ _ _ h hq
theorem jqW {P:Program} {ops:Array Oper} {Q:Exit→Act→World→Prop} {l:List Oper} {a:Act} {w:World} (t:Tmp) (v:Value) (w':World)
  (h:(runList P ops l a w).map (fun r=> (r.1.tmps.getD t undef,r.1.defers,r.2))=some (v, [],w'))
  (hq: ∀a':Act,a'.tmps.getD t undef=v→a'.defers= []→Q .normal a' w'):wpList P ops Q l a w:=by
 obtain⟨⟨a',w1⟩,hr,he⟩:=Option.map_eq_some_iff.1 h
 simp only [Prod.mk.injEq] at he
 obtain⟨h1,h2,rfl⟩:=he
 exact cqr l a w a' w1 hr (hq a' h1 h2)
theorem aq3 (w:World) (l:List Value) (t:TypeId): ∀j u,l[j]?=some u→(w.alloc (.cells l.toArray t)).cell? ((⟨w.heap.size,0,none⟩:Addr).add j)=some u:=by
 intro j u hj
 have e:((⟨w.heap.size,0,none⟩:Addr).add j)=⟨w.heap.size,j,none⟩:=by
  unfold Addr.add
  split<;>simp_all
 rw [e]
 unfold World.cell?
 rw [heap_alloc_new]
 simpa using hj
theorem Rf9{B:Nat}{a:World}:Below B a a:=Below.refl _ _
theorem cqH {P:Program} {w:World} {ops:Array Oper} {rest:List Oper} {o:Oper} {a:Act} {Q:Exit→Act→World→Prop} (hgd:o.guard=none) (s x:Operand) (t:TypeId)
  (ho:o.op= .call { callee:= .builtin .append,args:= #[s,x],argTypes:= #[t,t] }) {e:TypeId} {z:Value} {size bytes:Nat}
  (ht:P.underlying t=some (.slice e)) (hi:(P.info? e).map (fun i=> (i.zero,i.size,i.bytes))=some (some z,size,bytes)) (hzs:z.cells.size=size) (hsz:0<size)
  (base:Nat) {v:Value} {n:Nat} {xs:List Value} (hs:a.eval s=v) (hown:w.ownsRow base e size v n xs)
  {ad:Addr} {m c:Nat} {news:List Value} (hx:a.eval x= .slice (some ad) m c) (hl:news.length=m*size) (hnews: ∀j u,news[j]?=some u→w.cell? (ad.add j)=some u) (h1: ∀u∈news,u.oneCell'=true)
  (h63:n+m≤maxLen) (hbytes:(n+m)*bytes≤140737488355328) (hbase:base≤w.heap.size)
  (h: ∀v' w',w'.ownsRow base e size v' (n+m) (xs++news)→w.grownBy w' v.ownBlock→Below base w w'→wpList P ops Q rest (a.put o.dst v') w'):wpList P ops Q (o::rest) a w:=by
 obtain⟨i,hi,hz,hsize,hby⟩:=info_parts hi
 refine wpList_append_own w hgd s x t ho base e i z size bytes ht hi hz hsize hby hzs hsz v n xs hs hown ad m c news hx hl hnews h1 h63 hbytes hbase fun v' w' h2 h3 _=>h v' w' h2 h3 ?_
 exact Rf9.grown h3 hbase fun k hk=> (hown.lt k hk).1
theorem bq5:(Tryz.prog.info? 5).map (fun i=> (i.zero,i.size,i.bytes))=some (some (.int .u8 0),1,1):=by kernel_rfl
theorem gqK:(Tryz.prog.info? 3).map (fun i=> (i.zero,i.size,i.bytes))=some (some (.int .i64 0),1,8):=by kernel_rfl
theorem cqK:(Tryz.prog.info? 9).map (fun i=> (i.zero,i.size,i.bytes))=some (some (.string ⟨#[]⟩),1,16):=by kernel_rfl
end Go.Proofs.YtdbniocnjhfhdaaGreatDoor
namespace Go.Proofs.YtdbniocnjhfhdaaGreatDoor
open Go Go.RowKit Lib
theorem fqr (w:World) (k:Nat) (s:ByteArray) (pos pos':Nat) (hk:w.heap[k]?=some (.stringIter s pos)) (a:Addr):(w.iterAt k s pos').cell? a=w.cell? a:=by
 by_cases h:a.block=k
 ·unfold World.cell?
  rw [h,iterAt_heap w k s pos pos' hk,hk]
 exact World.cell?_of_block (iterAt_other w k a.block s pos' h)
theorem eqz (w:World) (k:Nat) (s:ByteArray) (pos pos':Nat) (hk:w.heap[k]?=some (.stringIter s pos)) (a:Addr):(w.iterAt k s pos').frozen? a=w.frozen? a:=by
 by_cases h:a.block=k
 ·unfold World.frozen?
  rw [h,iterAt_heap w k s pos pos' hk,hk]
 exact World.frozen?_of_block (iterAt_other w k a.block s pos' h)
theorem far (x n:Nat) (h:x<n):x<n∧x<n+1∧x<n+1+1∧x<n+1+1+1∧ ¬x=n∧ ¬x=n+1∧ ¬x=n+1+1∧ ¬x=n+1+1+1∧ ¬n=x∧ ¬n+1=x∧ ¬n+1+1=x∧ ¬n+1+1+1=x:=by omega
theorem Om{p:Prop}(h:p:=by omega):p:=h
theorem Nr{n:Nat}:n≤n:=Nat.le_refl _
theorem dqo {P:Program} {W:World} {ops:Array Oper} {rest:List Oper} {o:Oper} {a:Act} {Q:Exit→Act→World→Prop} {x:Operand} (hop:o.op= .next x true) (hgd:o.guard=none)
  {k:Nat} {s:ByteArray} {pos:Nat} (hx:a.eval x= .pointer (some ⟨k,0,none⟩)) (hk:W.heap[k]?=some (.stringIter s pos)) (c:Nat) (hc:s.data.toList[pos]?=some (UInt8.ofNat c)) (h1:c<128)
  (h: ∀W':World,W'.heap[k]?=some (.stringIter s (pos+1))→(∀b,W'.cell? b=W.cell? b)→(∀b,W'.frozen? b=W.frozen? b)→W'.heap.size=W.heap.size→(∀j,j≠k→W'.heap[j]?=W.heap[j]?)→Hid (Below k W W')→
   wpList P ops Q rest (a.put o.dst (.tuple #[.bool true, .int .i64 pos, .int .i32 c])) W'):wpList P ops Q (o::rest) a W:=by
 have hlt:pos<s.size:=by
  have:=(List.getElem?_eq_some_iff.1 hc).1
  simpa using this
 have hv:(s[pos]'hlt).toNat=c:=by
  have:=(List.getElem?_eq_some_iff.1 hc).2
  have e:s[pos]'hlt=s.data.toList[pos]'(by simpa using hlt):=rfl
  rw [e,this]
  simp [UInt8.toNat_ofNat]
  omega
 refine wpList_plain hgd fun K hK=> ?_
 have hr:=run_next_ascii_at (P:=P) W k s pos o.type hk hlt Om
 unfold Oper.wp execOp
 simp only [hop,hx,hr,Sem.run_bind,Result.andThen_ok,Sem.run_pure]
 rw [hv]
 exact hK _ _ (h (W.iterAt k s (pos+1)) (iterAt_heap W k s pos _ hk) (fqr W k s pos _ hk) (eqz W k s pos _ hk) (iterAt_size W k s _) (fun j hj=>iterAt_other W k j s _ hj) (below_iterAt Rf9 Nr _ _))
theorem fqa {P:Program} {W:World} {ops:Array Oper} {rest:List Oper} {o:Oper} {a:Act} {Q:Exit→Act→World→Prop} {x:Operand} (hop:o.op= .next x true) (hgd:o.guard=none)
  {k:Nat} {s:ByteArray} {pos:Nat} (hx:a.eval x= .pointer (some ⟨k,0,none⟩)) (hk:W.heap[k]?=some (.stringIter s pos)) (hc:s.data.toList.length≤pos)
  (h:wpList P ops Q rest (a.put o.dst (.tuple #[.bool false])) W):wpList P ops Q (o::rest) a W:=by
 have hlt: ¬pos<s.size:=by
  have:s.data.toList.length=s.size:=by simp
  omega
 refine wpList_plain hgd fun K hK=> ?_
 have hr:=run_next_end_at (P:=P) W k s pos o.type hk hlt
 unfold Oper.wp execOp
 simp only [hop,hx,hr,Sem.run_bind,Result.andThen_ok,Sem.run_pure]
 exact hK _ _ h
theorem cqb {P:Program} (w:World) (base:Nat) (t ty e:TypeId) (i:TypeInfo) (size:Nat) (ht:P.underlying t=some (.slice e)) (hi:P.info? e=some i)
  (v:Value) (n:Nat) (xs:List Value) (hown:w.ownsRow base e size v n xs) (c:Nat):(Builtin.append_ #[t,t] ty #[v, .slice none 0 c]).run P w= .ok v w:=by
 rcases hown.2 with⟨rfl,rfl⟩ | ⟨g,cap,cur,rfl,_,_,hnc,_⟩
 ·simp [Builtin.append_,run_underlying ht,sizeOf,typeInfo,hi,Builtin.lenOf,Builtin.firstCells]
 simp [Builtin.append_,run_underlying ht,sizeOf,typeInfo,hi,Builtin.lenOf,Builtin.firstCells,hnc,storeCells]
theorem bqi {P:Program} {w:World} {ops:Array Oper} {rest:List Oper} {o:Oper} {a:Act} {Q:Exit→Act→World→Prop} (hgd:o.guard=none) (s x:Operand) (t:TypeId)
  (ho:o.op= .call { callee:= .builtin .append,args:= #[s,x],argTypes:= #[t,t] }) {e:TypeId} {z:Value} {size bytes:Nat}
  (ht:P.underlying t=some (.slice e)) (hi:(P.info? e).map (fun i=> (i.zero,i.size,i.bytes))=some (some z,size,bytes)) (hzs:z.cells.size=size) (hsz:0<size)
  (base:Nat) {v:Value} {n:Nat} {xs:List Value} (hs:a.eval s=v) (hown:w.ownsRow base e size v n xs)
  {A:Option Addr} {m c:Nat} {news:List Value} (hx:a.eval x= .slice A m c) (hl:news.length=m*size) (hnews:0<m→ ∃ad,A=some ad∧ ∀j u,news[j]?=some u→w.cell? (ad.add j)=some u) (h1: ∀u∈news,u.oneCell'=true)
  (hpos:0<n+m) (h63:n+m≤maxLen) (hbytes:(n+m)*bytes≤140737488355328) (hbase:base≤w.heap.size)
  (h: ∀g cap w',w'.ownsRow base e size (.slice (some ⟨g,0,none⟩) (n+m) cap) (n+m) (xs++news)→w.grownBy w' v.ownBlock→Below base w w'→(v.ownBlock=some g∨g=w.heap.size)→g<w'.heap.size→
   wpList P ops Q rest (a.put o.dst (.slice (some ⟨g,0,none⟩) (n+m) cap)) w'):wpList P ops Q (o::rest) a w:=by
 obtain⟨i,hi,hz,hsize,hby⟩:=info_parts hi
 have hrun: ∃v' w',(Builtin.append_ #[t,t] o.type #[v, .slice A m c]).run P w= .ok v' w'∧w'.ownsRow base e size v' (n+m) (xs++news)∧w.grownBy w' v.ownBlock∧(v'.ownBlock=v.ownBlock∨v'.ownBlock=some w.heap.size):=by
  rcases A with _|ad
  ·have hm:m=0:=by
    rcases Nat.eq_zero_or_pos m with h0|h0
    ·exact h0
    obtain⟨ad,h,_⟩:=hnews h0
    cases h
   subst hm
   have hn:news= []:=List.eq_nil_of_length_eq_zero (by simpa using hl)
   subst hn
   exact⟨v,w,cqb w base t o.type e i size ht hi v n xs hown c,by simpa using hown,World.grownBy.refl w _, .inl rfl⟩
  have hcells: ∀j u,news[j]?=some u→w.cell? (ad.add j)=some u:=by
   intro j u hu
   rcases Nat.eq_zero_or_pos m with h0|h0
   ·subst h0
    have hn:news= []:=List.eq_nil_of_length_eq_zero (by simpa using hl)
    subst hn
    simp at hu
   obtain⟨ad',h,hc⟩:=hnews h0
   injection h with h
   subst h
   exact hc j u hu
  obtain⟨v',w',hrun,h2,h3,_,h5⟩:=run_append_own_at (P:=P) w base t o.type e i z size bytes ht hi hz hsize hby hzs hsz v n xs hown ad m c news hl hcells h1 h63 hbytes hbase
  exact⟨v',w',hrun,h2,h3,h5⟩
 obtain⟨v',w',hr,h2,h3,h5⟩:=hrun
 obtain⟨g,cap,rfl,hg,hlt⟩:=h2.form hpos
 refine wpList_plain hgd fun K hK=> ?_
 unfold Oper.wp execOp
 simp only [ho,resolve,invoke,builtin,Sem.run_bind,Sem.run_pure,Result.andThen_ok,List.map_toArray,List.map_cons,List.map_nil,hs,hx,hr]
 refine hK _ _ (h g cap w' h2 h3 (Rf9.grown h3 hbase fun k hk=> (hown.lt k hk).1) ?_ hlt)
 rcases h5 with h5|h5
 ·exact .inl (by rw [←h5];rfl)
 exact .inr (by simpa [Value.ownBlock] using h5)
def byt (l:List UInt8) (k:Nat):Nat:=(l.getD k 0).toNat
theorem kqP (l:List UInt8) (k:Nat):byt l k<256:=(l.getD k 0).toNat_lt
def bV (b:UInt8):Value:= .int .u8 b.toNat
theorem nqN (l:List UInt8) (i:Nat) (hi:i<l.length):(l.map bV)[i]?=some (.int .u8 (byt l i)):=by
 rw [List.getElem?_map,List.getElem?_eq_getElem hi]
 simp [byt,List.getD,List.getElem?_eq_getElem hi,bV]
theorem nqO (l:List UInt8): ∀u∈l.map bV,u.oneCell'=true:=by
 intro u hu
 obtain⟨_,_,rfl⟩:=List.mem_map.1 hu
 rfl
structure RdB (w:World) (A:Option Addr) (len cap:Nat) (l:List UInt8):Prop where
 hlen:len=l.length
 hle:len≤cap
 hmax:len≤9223372036854775807
 hat:0<len→ ∃b off,A=some ⟨b,off,none⟩∧b<w.heap.size∧ ∀i,i<len→w.cell? ⟨b,off+i,none⟩=some (.int .u8 (byt l i))
theorem RdB.below {w w':World} {A:Option Addr} {len cap:Nat} {l:List UInt8} (h:RdB w A len cap l) (hb:Below w.heap.size w w'):RdB w' A len cap l:=
 ⟨h.hlen,h.hle,h.hmax,fun h0=>by
  obtain⟨b,off,e,hlt,hc⟩:=h.hat h0
  exact⟨b,off,e,Nat.lt_of_lt_of_le hlt hb.size,fun i hi=> (hb.cell (p:=⟨b,off+i,none⟩) hlt).trans (hc i hi)⟩⟩
theorem RdB.alloc {w:World} {A:Option Addr} {len cap:Nat} {l:List UInt8} (h:RdB w A len cap l) (o:Obj):RdB (w.alloc o) A len cap l:=h.below (Rf9.alloc Nr _)
theorem RdB.drewN {w:World} {A:Option Addr} {len cap:Nat} {l:List UInt8} (h:RdB w A len cap l) (n:Nat):RdB (w.drewN n) A len cap l:=h.below (below_drewN Rf9 n)
theorem bqB (b off j:Nat):((⟨b,off,none⟩:Addr).add j)=⟨b,off+j,none⟩:=by
 unfold Addr.add
 split<;>simp_all
theorem RdB.src {w:World} {A:Option Addr} {len cap:Nat} {l:List UInt8} (h:RdB w A len cap l):0<len→ ∃ad,A=some ad∧ ∀j u,(l.map bV)[j]?=some u→w.cell? (ad.add j)=some u:=fun h0=>by
 obtain⟨b,off,e,hlt,hc⟩:=h.hat h0
 refine⟨_,e,fun j u hu=> ?_⟩
 have hj:j<l.length:=by
  have:=(List.getElem?_eq_some_iff.1 hu).1
  simpa using this
 rw [nqN l j hj] at hu
 injection hu with hu
 subst hu
 rw [bqB]
 exact hc j (by rw [h.hlen];exact hj)
theorem gqL {w:World} {base:Nat} {e:TypeId} {g n cap:Nat} {l:List UInt8} (h:w.ownsRow base e 1 (.slice (some ⟨g,0,none⟩) n cap) n (l.map bV)):RdB w (some ⟨g,0,none⟩) n cap l:=by
 have hn:n=l.length:=by
  have:=h.1
  simpa using this.symm
 have hc:n≤cap∧cap≤maxLen:=by
  rcases h.2 with⟨hv,_⟩ | ⟨g',cap',cur,hv,_,_,h1,h2,_⟩
  ·cases hv
  injection hv with _ _ h3
  subst h3
  exact⟨h1,h2⟩
 refine⟨hn,hc.1,by have:=hc.2;unfold maxLen at this;omega,fun h0=> ⟨g,0,rfl,(h.lt g rfl).2,fun i hi=> ?_⟩⟩
 rw [Nat.zero_add,h.cellAt i Om]
 exact nqN l i Om
theorem aqF {w:World} {base:Nat} {e:TypeId} {size n m:Nat} {v:Value} {xs ys:List Value} (h:w.ownsRow base e size v n xs) (hn:n=m) (hx:xs=ys):w.ownsRow base e size v m ys:=by
 subst hn
 subst hx
 exact h
theorem jqp (c:Nat) (h:c<256):Value.int .u8 (c:Int)=bV (UInt8.ofNat c):=by
 unfold bV
 rw [UInt8.toNat_ofNat',Nat.mod_eq_of_lt Om]
theorem jqq (l:List UInt8) (n i:Nat) (h:i<n):byt (l.take n) i=byt l i:=by
 unfold byt
 rw [List.getD_eq_getElem?_getD,List.getD_eq_getElem?_getD,List.getElem?_take,if_pos h]
theorem RdB.take {w:World} {A:Option Addr} {len cap:Nat} {l:List UInt8} (h:RdB w A len cap l) (n:Nat) (hn:n≤len):RdB w A n cap (l.take n):=
 ⟨by have:=h.hlen;rw [List.length_take];omega,by have:=h.hle;omega,by have:=h.hmax;omega,fun h0=>by
  obtain⟨b,off,e,hlt,hc⟩:=h.hat Om
  exact⟨b,off,e,hlt,fun i hi=>by rw [jqq l n i hi];exact hc i Om⟩⟩
def lenOf:Value→Nat
 | .slice _ n _=>n
 |_=>0
theorem aqj {w w':World} {base:Nat} {e:TypeId} {size n:Nat} {v:Value} {xs:List Value} (h:w.ownsRow base e size v n xs) (hk: ∀g,v.ownBlock=some g→w'.heap[g]?=w.heap[g]?):w'.ownsRow base e size v n xs:=by
 rcases h.2 with⟨rfl,h0⟩ | ⟨g,cap,cur,rfl,hb,hg,r⟩
 ·exact⟨h.1, .inl ⟨rfl,h0⟩⟩
 exact⟨h.1, .inr ⟨g,cap,cur,rfl,hb,(hk g rfl).trans hg,r⟩⟩
theorem fqs {w w':World} {v:Value} {g:Nat} (h:w.grownBy w' v.ownBlock) (hv:v.ownBlock=some g):
  (∀b o,b<w.heap.size→b≠g→w'.cell? ⟨b,o,none⟩=w.cell? ⟨b,o,none⟩)∧(∀b o,b<w.heap.size→b≠g→w'.frozen? ⟨b,o,none⟩=w.frozen? ⟨b,o,none⟩)∧
   (∀b,b<w.heap.size→b≠g→w'.heap[b]?=w.heap[b]?)∧w.heap.size≤w'.heap.size:=by
 have hb: ∀b,b<w.heap.size→b≠g→w'.heap[b]?=w.heap[b]?:=fun b hlt hne=>h.block b hlt (by rw [hv];intro e;injection e with e;exact hne e)
 exact⟨fun b o hlt hne=>World.cell?_of_block (hb b hlt hne),fun b o hlt hne=>World.frozen?_of_block (hb b hlt hne),hb,h.size⟩
theorem aqm (w:World) (l:List Value) (t:TypeId) (k:Nat) (hk:k=w.heap.size): ∀j u,l[j]?=some u→(w.alloc (.cells l.toArray t)).cell? ((⟨k,0,none⟩:Addr).add j)=some u:=by
 subst hk
 exact aq3 w l t
def Stop (p:Prop):Prop:=p
theorem aqa {p:Prop} (h:Stop p):p:=h
theorem aqb {p:Prop} (h:p):Stop p:=h
theorem bqQ {w:World} {base:Nat} {e:TypeId} {size n g cap:Nat} {xs:List Value} (h:w.ownsRow base e size (.slice (some ⟨g,0,none⟩) n cap) n xs) {p:Addr} (hp:g≠p.block) (u:Value):
  (w.setCell p u).ownsRow base e size (.slice (some ⟨g,0,none⟩) n cap) n xs:=
 aqj h fun k hk=>by
  simp only [Value.ownBlock,Option.some.injEq] at hk
  subst hk
  exact Below.heap_setCell w p u _ hp
end Go.Proofs.YtdbniocnjhfhdaaGreatDoor
namespace Go.Proofs.YtdbniocnjhfhdaaGreatDoor
open Go Go.RowKit Lib Go.Maps
def nq2 (v:Value):Option (DataW Value×List MemPlace):=some (.held v, [])
def cqa (w:World) (P:Program) (k:TypeId) (b n:Nat) (f:List UInt8→Option Value) (sz:Nat):Prop:=
 ∃D:DataW Value,w.ownsMap P k nq2 b n D∧Maps.size D=sz∧(∀s z,D.atKey (.string s) z=((f s).map DataW.held).getD z)∧ ∀s,Maps.has D (.string s)=(f s).isSome
def iqj (f:List UInt8→Option Value) (k:List UInt8) (v:Value):List UInt8→Option Value:=fun s=>if s=k then some v else f s
def oqI (f:List UInt8→Option Value) (k:List UInt8):List UInt8→Option Value:=fun s=>if s=k then none else f s
theorem fqt (w:World) (P:Program) (k:TypeId):cqa (w.alloc (.map #[] 0)) P k w.heap.size 0 (fun _=>none) 0:=
 ⟨.map [],World.ownsMap_made _ _ _ _,rfl,fun _ _=>rfl,fun _=>rfl⟩
theorem cqa.lt {w:World} {P:Program} {k:TypeId} {b n sz:Nat} {f:List UInt8→Option Value} (h:cqa w P k b n f sz):b<w.heap.size:=by
 obtain⟨D,h,_⟩:=h
 exact h.lt
theorem cqa.keep {w w':World} {P:Program} {k:TypeId} {b n sz:Nat} {f:List UInt8→Option Value} (h:cqa w P k b n f sz) (hb:w'.heap[b]?=w.heap[b]?):cqa w' P k b n f sz:=by
 obtain⟨D,⟨es,clock,h1,h2⟩,r⟩:=h
 exact⟨D,⟨es,clock,hb.trans h1,h2⟩,r⟩
theorem cqa.size_le {w:World} {P:Program} {k:TypeId} {b n sz:Nat} {f:List UInt8→Option Value} (h:cqa w P k b n f sz):sz≤n:=by
 obtain⟨D,h,rfl,_⟩:=h
 exact h.size_le
section
variable {P:Program} {w:World} {ops:Array Oper} {rest:List Oper} {o:Oper} {a:Act} {Q:Exit→Act→World→Prop} {k e t:TypeId} {b n sz:Nat} {f:List UInt8→Option Value}
theorem kqQ {v z:Value} {x:Option Value} {ps:List MemPlace} (h:nq2 v=some ((x.map DataW.held).getD (.held z),ps)):v=x.getD z:=by
 unfold nq2 at h
 cases x<;>simp at h<;>simp [h.1]
theorem cqs (hg:o.guard=none) (m x:Operand) (hop:o.op=Op.lookup t m x true) (hk:P.underlying k=some .string) (ht:P.underlying t=some (.map k e)) {z:Value} (hz:(zeroValue e).run P w= .ok z w)
  (hm:a.eval m= .map (some b)) (h:cqa w P k b n f sz) {s:ByteArray} (hx:a.eval x= .string s) (hs:s.size≤maxLen)
  (hK:wpList P ops Q rest (a.put o.dst (.tuple #[(f s.data.toList).getD z, .bool (f s.data.toList).isSome])) w):wpList P ops Q (o::rest) a w:=by
 obtain⟨D,hown,_,hat,hh⟩:=h
 refine wpList_lookup_own_ok w hg m x t hop k e (string_keyed hk) ht nq2 hz (.held z) [] rfl b n D hm hown (.string s) _ hx (Go.WideMaps.keyOf_string_mk hk hs) fun v ps hv=> ?_
 rw [hat] at hv
 rw [kqQ hv,hh]
 exact hK
theorem dqP (hg:o.guard=none) (m x:Operand) (hop:o.op=Op.lookup t m x false) (hk:P.underlying k=some .string) (ht:P.underlying t=some (.map k e)) {z:Value} (hz:(zeroValue e).run P w= .ok z w)
  (hm:a.eval m= .map (some b)) (h:cqa w P k b n f sz) {s:ByteArray} (hx:a.eval x= .string s) (hs:s.size≤maxLen)
  (hK:wpList P ops Q rest (a.put o.dst ((f s.data.toList).getD z)) w):wpList P ops Q (o::rest) a w:=by
 obtain⟨D,hown,_,hat,hh⟩:=h
 obtain⟨v,ps,hrun,hv⟩:=hown.lookup (string_keyed hk) ht hz (R:=nq2) rfl (Go.WideMaps.keyOf_string_mk hk hs)
 rw [hat] at hv
 refine wpList_plain hg fun K' hK'=> ?_
 unfold Oper.wp
 simp [execOp,hop,hm,hx,hrun,Result.andThen]
 rw [kqQ hv]
 exact hK' _ _ hK
theorem jqr (hg:o.guard=none) (m:Operand) (hop:o.op=Op.call { callee:=Callee.builtin Builtin.len,args:= #[m],argTypes:= #[t] }) (ht:P.underlying t=some (.map k e))
  (hm:a.eval m= .map (some b)) (h:cqa w P k b n f sz) (hK:wpList P ops Q rest (a.put o.dst (.int .i64 sz)) w):wpList P ops Q (o::rest) a w:=by
 obtain⟨D,hown,rfl,_⟩:=h
 exact wpList_len_own w hg m t hop k e ht nq2 b n D hm hown hK
theorem gqk {s k:List UInt8} (h:s≠k):Lit.string s≠Lit.string k:=fun e=>h (by injection e)
theorem eqp (hg:o.guard=none) (m x v:Operand) (hop:o.op=Op.mapUpdate t m x v) (hk:P.underlying k=some .string) (ht:P.underlying t=some (.map k e))
  (hm:a.eval m= .map (some b)) (h:cqa w P k b n f sz) (hn:n<maxLen) {s:ByteArray} (hx:a.eval x= .string s) (hs:s.size≤maxLen) {u:Value} (hv:a.eval v=u)
  (hK: ∀w',cqa w' P k b (n+1) (iqj f s.data.toList u) (if(f s.data.toList).isSome then sz else sz+1)→w.grownBy w' (some b)→wpList P ops Q rest (a.put o.dst undef) w'):wpList P ops Q (o::rest) a w:=by
 obtain⟨D,hown,hsz,hat,hh⟩:=h
 have ht':=hown.tidy (string_keyed hk)
 refine wpList_mapUpdate_in w hg m x v t hop k e (string_keyed hk) ht nq2 b n D hm hown hn (.string s) u _ hx hv (Go.WideMaps.keyOf_string_mk hk hs) (.held u) [] rfl fun w' h1 h2=>hK w' ⟨_,h1, ?_, ?_, ?_⟩ h2.grown
 ·rw [size_put ht',hh,hsz]
 ·intro s' z
  unfold iqj
  by_cases hs':s'=s.data.toList
  ·subst hs'
   rw [atKey_put_same ht'.isMap (by simp [WideAt.IsKeyLit]),if_pos rfl]
   rfl
  rw [atKey_put_other (gqk hs'),if_neg hs',hat]
 intro s'
 unfold iqj
 by_cases hs':s'=s.data.toList
 ·subst hs'
  rw [has_put_same ht'.isMap (by simp [WideAt.IsKeyLit]),if_pos rfl]
  rfl
 rw [has_put_other (gqk hs'),if_neg hs',hh]
end
end Go.Proofs.YtdbniocnjhfhdaaGreatDoor
namespace Go.Proofs.YtdbniocnjhfhdaaGreatDoor
open Go Go.RowKit Lib
theorem iql (l:List UInt8):strOfNums (l.map fun x=> (x.toNat:Int))=⟨l.toArray⟩:=by
 unfold strOfNums
 congr 1
 rw [List.map_map]
 congr 1
 conv=>rhs;rw [←List.map_id l]
 apply List.map_congr_left
 intro x _
 simp
theorem RdB.str {w:World} {A:Option Addr} {len cap:Nat} {l:List UInt8} (h:RdB w A len cap l):(convert 27 9 (.slice A len cap)).run Tryz.prog w= .ok (.string ⟨l.toArray⟩) w:=by
 rcases Nat.eq_zero_or_pos len with h0|h0
 ·have hl:l= []:=List.eq_nil_of_length_eq_zero (by have:=h.hlen;omega)
  subst hl
  subst h0
  rw [run_convert_bytes_string (P:=Tryz.prog) w 27 9 5 A 0 cap Tryz.underlying27 Tryz.underlying5 Tryz.underlying9]
  rcases A with _|a
  ·simp [Conv.bytesToString]
   rfl
  have:=run_bytesToString (P:=Tryz.prog) w a 0 cap [] (by simpa using run_loadCells_list (P:=Tryz.prog) w a [] (fun j v hj=>by simp at hj))
  rw [this]
  rfl
 obtain⟨b,off,rfl,_,hc⟩:=h.hat h0
 have:=run_convert_bytes_arg (P:=Tryz.prog) w 27 5 Tryz.underlying27 Tryz.underlying5 b off len cap (l.map fun x=> (x.toNat:Int)) (by simpa using h.hlen.symm) (fun i hi=>by
  rw [hc i hi]
  have hi2:i<l.length:=by have:=h.hlen;omega
  simp [byt,List.getD,List.getElem?_map,List.getElem?_eq_getElem hi2]) 9 Tryz.underlying9
 rw [this,iql]
theorem RdB.part {w:World} {b off len cap:Nat} {l:List UInt8} (h:RdB w (some ⟨b,off,none⟩) len cap l) (p n:Nat) (hp:p+n≤len) (h1:0<n):RdB w (some ⟨b,off+p,none⟩) n (cap - p) ((l.drop p).take n):=by
 have h2:=h.hlen
 have h3:=h.hle
 have h4:=h.hmax
 refine⟨by simp;omega,by omega,by omega,fun _=> ?_⟩
 obtain⟨b',off',e,hlt,hc⟩:=h.hat Om
 injection e with e
 injection e with e1 e2 e3
 subst e1
 subst e2
 refine⟨b,off+p,rfl,hlt,fun i hi=> ?_⟩
 rw [jqq _ _ _ hi,Nat.add_assoc,hc (p+i) Om]
 congr 2
 unfold byt
 rw [List.getD_eq_getElem?_getD,List.getD_eq_getElem?_getD,List.getElem?_drop]
theorem cq4 {P:Program} {w:World} {ops:Array Oper} {rest:List Oper} {o:Oper} {a:Act} {Q:Exit→Act→World→Prop} (hgd:o.guard=none) (s x:Operand) (t:TypeId)
  (ho:o.op= .call { callee:= .builtin .append,args:= #[s,x],argTypes:= #[t,t] }) {e:TypeId} {z:Value} {size bytes:Nat}
  (ht:P.underlying t=some (.slice e)) (hi:(P.info? e).map (fun i=> (i.zero,i.size,i.bytes))=some (some z,size,bytes)) (hzs:z.cells.size=size) (hsz:0<size)
  (base:Nat) {v:Value} {n:Nat} {xs:List Value} (hs:a.eval s=v) (hown:w.ownsRow base e size v n xs)
  {A:Option Addr} {m c:Nat} {news:List Value} (hx:a.eval x= .slice A m c) (hl:news.length=m*size) (hnews:0<m→ ∃ad,A=some ad∧ ∀j u,news[j]?=some u→w.cell? (ad.add j)=some u) (h1: ∀u∈news,u.oneCell'=true)
  (h63:n+m≤maxLen) (hbytes:(n+m)*bytes≤140737488355328) (hbase:base≤w.heap.size)
  (h: ∀v' w',w'.ownsRow base e size v' (n+m) (xs++news)→w.grownBy w' v.ownBlock→Below base w w'→wpList P ops Q rest (a.put o.dst v') w'):wpList P ops Q (o::rest) a w:=by
 rcases Nat.eq_zero_or_pos (n+m) with h0|hpos
 ·obtain⟨rfl,rfl⟩:n=0∧m=0:=by omega
  obtain⟨i,hi,hz,hsize,hby⟩:=info_parts hi
  have hn:news= []:=List.eq_nil_of_length_eq_zero (by simpa using hl)
  subst hn
  have hrun:(Builtin.append_ #[t,t] o.type #[v, .slice A 0 c]).run P w= .ok v w:=by
   rcases A with _|ad
   ·exact cqb w base t o.type e i size ht hi v 0 xs hown c
   have hl0:(loadCells ad 0).run P w= .ok #[] w:=by simpa using run_loadCells_list (P:=P) w ad [] (fun j v hj=>by simp at hj)
   rcases hown.2 with⟨rfl,_⟩ | ⟨g,cap,cur,rfl,_,_,hnc,_⟩
   ·simp [Builtin.append_,run_underlying ht,sizeOf,typeInfo,hi,Builtin.lenOf,Builtin.firstCells,hl0,storeCells]
   simp [Builtin.append_,run_underlying ht,sizeOf,typeInfo,hi,Builtin.lenOf,Builtin.firstCells,hnc,hl0,storeCells]
  refine wpList_plain hgd fun K hK=> ?_
  unfold Oper.wp execOp
  simp only [ho,resolve,invoke,builtin,Sem.run_bind,Sem.run_pure,Result.andThen_ok,List.map_toArray,List.map_cons,List.map_nil,hs,hx,hrun]
  exact hK _ _ (h v w (by simpa using hown) (World.grownBy.refl w _) Rf9)
 exact bqi hgd s x t ho ht hi hzs hsz base hs hown hx hl hnews h1 hpos h63 hbytes hbase fun g cap w' h2 h3 h4 _ _=>h _ w' h2 h3 h4
theorem gqe {P:Program} {id:Nat} {Q:Exit→Act→World→Prop} {a:Act} {w:World} {l:List Oper} (n:Nat) (hm:P.follows .mixedOrders=true) (hB:Region.lexTailB .any l.toArray n=true)
  (h:wpStill P l.toArray (w.drewN 1) (fun a'=>wpList P l.toArray Q (l.drop n) a' (w.drewN 1)) (l.take n) a):(Code.region id l.toArray true).wp P Q a w:=wp_region_still_tail n hm hB h
theorem bqV {P:Program} {ops:Array Oper} {w:World} {Q:Act→Prop}: ∀(l:List Oper) (a:Act),wpQuiet P ops (fun x=>x=w) Q l a→wpStill P ops w Q l a
 | [],_,h=>h
 |o::rest,a,h=>by
  unfold wpQuiet at h
  unfold wpStill
  split at h
  ·rename_i hw
   rw [if_pos hw]
   obtain⟨v,h1,h2⟩:=h
   have h3:=h1 w rfl
   unfold Oper.quietAt at h3
   unfold Oper.still
   generalize (execOp a.eval o).run P w=r at h3⊢
   unfold Oper.quietUpon at h3
   unfold Oper.stillUpon
   split at h3
   ·obtain⟨rfl,rfl⟩:=h3
    exact⟨rfl,bqV rest _ h2⟩
   ·obtain⟨rfl,rfl⟩:=h3
    exact⟨rfl,bqV rest _ h2⟩
   ·exact⟨h3.1,v,h3.2,bqV rest _ h2⟩
   exact h3.elim
  rename_i hw
  rw [if_neg hw]
  exact bqV rest _ h
theorem bqW {P:Program} {id:Nat} {Q:Exit→Act→World→Prop} {a:Act} {w:World} {l:List Oper} (n:Nat) (hm:P.follows .mixedOrders=true) (hB:Region.lexTailB .any l.toArray n=true)
  (h:wpQuiet P l.toArray (fun x=>x=w.drewN 1) (fun a'=>wpList P l.toArray Q (l.drop n) a' (w.drewN 1)) (l.take n) a):(Code.region id l.toArray true).wp P Q a w:=gqe n hm hB (bqV _ _ h)
section Floating
variable {P:Program} {Q:Exit→Act→World→Prop}
end Floating
end Go.Proofs.YtdbniocnjhfhdaaGreatDoor
namespace Go.Proofs.YtdbniocnjhfhdaaGreatDoor
open Go Go.RowKit Lib Go.Maps
structure But (B:Nat) (S:List Nat) (w w':World):Prop where
 os:w'.os=w.os
 tape:w'.tape=w.tape
 output:w'.output=w.output
 size:w.heap.size≤w'.heap.size
 block: ∀k,k<B→k∉S→w'.heap[k]?=w.heap[k]?
theorem But.of_below {B:Nat} {S:List Nat} {w w':World} (h:Below B w w'):But B S w w':=⟨h.os,h.tape,h.output,h.size,fun k hk _=>h.block k hk⟩
theorem Sp{p:Prop}(h:p:=by simp):p:=h
theorem But.below {B:Nat} {w w':World} (h:But B [] w w'):Below B w w':=⟨h.os,h.tape,h.output,h.size,fun k hk=>h.block k hk Sp⟩
theorem But.refl (B:Nat) (S:List Nat) (w:World):But B S w w:=⟨rfl,rfl,rfl,Nat.le_refl _,fun _ _ _=>rfl⟩
theorem But.trans {B:Nat} {S:List Nat} {a b c:World} (h:But B S a b) (k:But B S b c):But B S a c:=
 ⟨k.os.trans h.os,k.tape.trans h.tape,k.output.trans h.output,Nat.le_trans h.size k.size,fun i hi hs=> (k.block i hi hs).trans (h.block i hi hs)⟩
theorem But.mono {B B':Nat} {S S':List Nat} {w w':World} (h:But B S w w') (hB:B'≤B) (hS: ∀k,k<B'→k∈S→k∈S'):But B' S' w w':=
 ⟨h.os,h.tape,h.output,h.size,fun k hk hs=>h.block k Om (fun hk'=>hs (hS k hk hk'))⟩
theorem But.grown {B:Nat} {S:List Nat} {a w w':World} {row:Option Nat} (h:But B S a w) (hg:w.grownBy w' row) (hB:B≤w.heap.size) (hr: ∀k,row=some k→k∈S∨B≤k):But B S a w':=
 h.trans ⟨hg.os,hg.tape,hg.output,hg.size,fun k hk hs=>hg.block k Om (fun e=>by
  rcases hr k e.symm with h1|h1
  ·exact hs h1
  omega)⟩
theorem But.cell {B:Nat} {S:List Nat} {w w':World} (h:But B S w w') {p:Addr} (hp:p.block<B) (hs:p.block∉S):w'.cell? p=w.cell? p:=World.cell?_of_block (w:=w) (h.block p.block hp hs)
theorem But.frozen {B:Nat} {S:List Nat} {w w':World} (h:But B S w w') {p:Addr} (hp:p.block<B) (hs:p.block∉S):w'.frozen? p=w.frozen? p:=World.frozen?_of_block (w:=w) (h.block p.block hp hs)
theorem cqa.but {w w':World} {P:Program} {k:TypeId} {b n sz:Nat} {f:List UInt8→Option Value} (h:cqa w P k b n f sz) {B:Nat} {S:List Nat} (hb:But B S w w') (hB:b<B) (hs:b∉S):cqa w' P k b n f sz:=h.keep (hb.block b hB hs)
theorem cqa.store {P:Program} {w:World} {k e t:TypeId} {b n sz:Nat} {f:List UInt8→Option Value} (h:cqa w P k b n f sz) (hk:P.underlying k=some .string) (ht:P.underlying t=some (.map k e)) (hn:n<maxLen)
  {s:ByteArray} (hs:s.size≤maxLen) (u:Value): ∃w',(Instr.mapUpdate t (.map (some b)) (.string s) u).run P w= .ok () w'∧cqa w' P k b (n+1) (iqj f s.data.toList u) (if(f s.data.toList).isSome then sz else sz+1)∧w.grownBy w' (some b):=by
 obtain⟨D,hown,hsz,hat,hh⟩:=h
 have ht':=hown.tidy (string_keyed hk)
 obtain⟨w',hrun,h1,h2⟩:=hown.store (string_keyed hk) ht hn (Go.WideMaps.keyOf_string_mk hk hs) (val:=u) (d:= .held u) (ps:= []) rfl
 refine⟨w',hrun,⟨_,h1, ?_, ?_, ?_⟩,h2.grown⟩
 ·rw [size_put ht',hh,hsz]
 ·intro s' z
  unfold iqj
  by_cases hs':s'=s.data.toList
  ·subst hs'
   rw [atKey_put_same ht'.isMap (by simp [WideAt.IsKeyLit]),if_pos rfl]
   rfl
  rw [atKey_put_other (gqk hs'),if_neg hs',hat]
 intro s'
 unfold iqj
 by_cases hs':s'=s.data.toList
 ·subst hs'
  rw [has_put_same ht'.isMap (by simp [WideAt.IsKeyLit]),if_pos rfl]
  rfl
 rw [has_put_other (gqk hs'),if_neg hs',hh]
theorem nq3 {P:Program} (w:World) (t ty:TypeId) {e:TypeId} {z:Value} {size bytes:Nat}
  (ht:P.underlying t=some (.slice e)) (hi:(P.info? e).map (fun i=> (i.zero,i.size,i.bytes))=some (some z,size,bytes)) (hzs:z.cells.size=size) (hsz:0<size)
  (base:Nat) {v:Value} {n:Nat} {xs:List Value} (hown:w.ownsRow base e size v n xs)
  {A:Option Addr} {m c:Nat} {news:List Value} (hl:news.length=m*size) (hnews:0<m→ ∃ad,A=some ad∧ ∀j u,news[j]?=some u→w.cell? (ad.add j)=some u) (h1: ∀u∈news,u.oneCell'=true)
  (h63:n+m≤maxLen) (hbytes:(n+m)*bytes≤140737488355328) (hbase:base≤w.heap.size):
  ∃v' w',(Builtin.append_ #[t,t] ty #[v, .slice A m c]).run P w= .ok v' w'∧w'.ownsRow base e size v' (n+m) (xs++news)∧w.grownBy w' v.ownBlock∧Below base w w':=by
 obtain⟨i,hi,hz,hsize,hby⟩:=info_parts hi
 rcases A with _|ad
 ·have hm:m=0:=by
   rcases Nat.eq_zero_or_pos m with h0|h0
   ·exact h0
   obtain⟨ad,h,_⟩:=hnews h0
   cases h
  subst hm
  have hn:news= []:=List.eq_nil_of_length_eq_zero (by simpa using hl)
  subst hn
  exact⟨v,w,cqb w base t ty e i size ht hi v n xs hown c,by simpa using hown,World.grownBy.refl w _,Below.refl _ _⟩
 have hcells: ∀j u,news[j]?=some u→w.cell? (ad.add j)=some u:=by
  intro j u hu
  rcases Nat.eq_zero_or_pos m with h0|h0
  ·subst h0
   have hn:news= []:=List.eq_nil_of_length_eq_zero (by simpa using hl)
   subst hn
   simp at hu
  obtain⟨ad',h,hc⟩:=hnews h0
  injection h with h
  subst h
  exact hc j u hu
 obtain⟨v',w',hrun,h2,h3,_,h5⟩:=run_append_own_at (P:=P) w base t ty e i z size bytes ht hi hz hsize hby hzs hsz v n xs hown ad m c news hl hcells h1 h63 hbytes hbase
 exact⟨v',w',hrun,h2,h3,Rf9.grown h3 hbase fun k hk=> (hown.lt k hk).1⟩
theorem fqk {P:Program} {w:World} {ops:Array Oper} {o:Oper} {a:Act} {K:Act→World→Prop} {Q:Exit→Act→World→Prop} {E:Prop} (hgd:o.guard=none) (s x:Operand) (t:TypeId)
  (ho:o.op= .call { callee:= .builtin .append,args:= #[s,x],argTypes:= #[t,t] }) {e:TypeId} {z:Value} {size bytes:Nat}
  (ht:P.underlying t=some (.slice e)) (hi:(P.info? e).map (fun i=> (i.zero,i.size,i.bytes))=some (some z,size,bytes)) (hzs:z.cells.size=size) (hsz:0<size)
  (base:Nat) {v:Value} {n:Nat} {xs:List Value} (hs:a.eval s=v) (hown:w.ownsRow base e size v n xs)
  {A:Option Addr} {m c:Nat} {news:List Value} (hx:a.eval x= .slice A m c) (hl:news.length=m*size) (hnews:0<m→ ∃ad,A=some ad∧ ∀j u,news[j]?=some u→w.cell? (ad.add j)=some u) (h1: ∀u∈news,u.oneCell'=true)
  (h63:n+m≤maxLen) (hbytes:(n+m)*bytes≤140737488355328) (hbase:base≤w.heap.size)
  (h: ∀v' w',w'.ownsRow base e size v' (n+m) (xs++news)→w.grownBy w' v.ownBlock→Below base w w'→K (a.put o.dst v') w'):if Region.wanted o (yielded ops a.tmps)=true then Oper.wp P o a w K Q else E:=by
 have hw:Region.wanted o (yielded ops a.tmps)=true:=by simp [Region.wanted,hgd]
 rw [if_pos hw]
 obtain⟨v',w',hr,h2,h3,h4⟩:=nq3 (P:=P) w t o.type ht hi hzs hsz base hown (A:=A) (m:=m) (c:=c) hl hnews h1 h63 hbytes hbase
 unfold Oper.wp execOp
 simp only [ho,resolve,invoke,builtin,Sem.run_bind,Sem.run_pure,Result.andThen_ok,List.map_toArray,List.map_cons,List.map_nil,hs,hx,hr]
 exact h v' w' h2 h3 h4
end Go.Proofs.YtdbniocnjhfhdaaGreatDoor
namespace Go.Proofs.YtdbniocnjhfhdaaGreatDoor
open Go Go.RowKit Lib
structure Ko where
 tag:Int
 text:ByteArray
 num:Int
 a:Int
 b:Int
def Ko.cells (k:Ko):List Value:= [.int .i64 k.tag, .string k.text, .int .i64 k.num, .int .i64 k.a, .int .i64 k.b]
structure aqq where
 acc:Int
 name:Int
 desc:Int
 value:Int
def aqq.cells (f:aqq):List Value:= [.int .i64 f.acc, .int .i64 f.name, .int .i64 f.desc, .int .i64 f.value]
structure bqK where
 lo:Int
 hi:Int
 tgt:Int
 kind:Int
def bqK.cells (f:bqK):List Value:= [.int .i64 f.lo, .int .i64 f.hi, .int .i64 f.tgt, .int .i64 f.kind]
structure aqr where
 acc:Int
 name:Int
 desc:Int
 has:Bool
 stack:Int
 locals:Int
 code:List UInt8
 traps:List bqK
structure aqc where
 minor:Int
 major:Int
 pool:List Ko
 acc:Int
 this:Int
 sup:Int
 ifs:List Int
 flds:List aqq
 mths:List aqr
def bqm (w:World) (ok:Nat→Prop) (size n:Nat) (cells:List Value) (v:Value):Prop:=
 ∃A cap,v= .slice A n cap∧n≤cap∧n≤1048576∧cells.length=n*size∧(0<n→ ∃b off,A=some ⟨b,off,none⟩∧b<w.heap.size∧ok b∧ ∀j u,cells[j]?=some u→w.cell? ⟨b,off+j,none⟩=some u)
structure aqC (ok:Nat→Prop) (w w':World):Prop where
 size:w.heap.size≤w'.heap.size
 cell: ∀g,g<w.heap.size→ok g→ ∀o,w'.cell? ⟨g,o,none⟩=w.cell? ⟨g,o,none⟩
theorem aqC.of_but {ok:Nat→Prop} {S:List Nat} {w w':World} (h:But w.heap.size S w w') (hs: ∀g,ok g→g∉S):aqC ok w w':=
 ⟨h.size,fun g hg ho o=>h.cell (p:=⟨g,o,none⟩) hg (hs g ho)⟩
theorem aqC.of_below {ok:Nat→Prop} {w w':World} (h:Below w.heap.size w w'):aqC ok w w':=⟨h.size,fun g hg _ o=>h.cell (p:=⟨g,o,none⟩) hg⟩
theorem aqC.trans {ok:Nat→Prop} {a b c:World} (h:aqC ok a b) (k:aqC ok b c):aqC ok a c:=
 ⟨Nat.le_trans h.size k.size,fun g hg ho o=> (k.cell g (Nat.lt_of_lt_of_le hg h.size) ho o).trans (h.cell g hg ho o)⟩
theorem aqC.mono {ok ok':Nat→Prop} {w w':World} (h:aqC ok w w') (hs: ∀g,ok' g→ok g):aqC ok' w w':=⟨h.size,fun g hg ho o=>h.cell g hg (hs g ho) o⟩
theorem bqm.keep {w w':World} {ok:Nat→Prop} {size n:Nat} {cells:List Value} {v:Value} (h:bqm w ok size n cells v) (hk:aqC ok w w'):bqm w' ok size n cells v:=by
 obtain⟨A,cap,rfl,h1,h2,h3,h4⟩:=h
 refine⟨A,cap,rfl,h1,h2,h3,fun h0=> ?_⟩
 obtain⟨b,off,e,hlt,ho,hc⟩:=h4 h0
 exact⟨b,off,e,Nat.lt_of_lt_of_le hlt hk.size,ho,fun j u hu=> (hk.cell b hlt ho _).trans (hc j u hu)⟩
theorem bqm.mono {w:World} {ok ok':Nat→Prop} {size n:Nat} {cells:List Value} {v:Value} (h:bqm w ok size n cells v) (hs: ∀g,g<w.heap.size→ok g→ok' g):bqm w ok' size n cells v:=by
 obtain⟨A,cap,rfl,h1,h2,h3,h4⟩:=h
 refine⟨A,cap,rfl,h1,h2,h3,fun h0=> ?_⟩
 obtain⟨b,off,e,hlt,ho,hc⟩:=h4 h0
 exact⟨b,off,e,hlt,hs b hlt ho,hc⟩
theorem cqY (w:World) (ok:Nat→Prop) (size:Nat):bqm w ok size 0 [] (.slice none 0 0):=⟨none,0,rfl,Nat.le_refl _,by omega,by simp,fun h=>absurd h Om⟩
theorem aqs {w:World} {base:Nat} {e:TypeId} {size n:Nat} {v:Value} {xs:List Value} (h:w.ownsRow base e size v n xs) (ok:Nat→Prop) (hs:0<size) (hn:n≤1048576) (ho: ∀g,v.ownBlock=some g→ok g):bqm w ok size n xs v:=by
 rcases h.2 with⟨rfl,h0⟩ | ⟨g,cap,cur,rfl,hb,hg,hnc,hcm,hcs,hx⟩
 ·subst h0
  have hn0:xs= []:=by
   have hl:=h.1
   simp at hl
   exact hl
  subst hn0
  exact cqY w ok size
 exact⟨_,cap,rfl,hnc,hn,h.1,fun h0=> ⟨g,0,rfl,(h.lt g rfl).2,ho g rfl,fun j u hu=>by
  have hl:j<n*size:=by
   have:=(List.getElem?_eq_some_iff.1 hu).1
   have:=h.1
   omega
  rw [Nat.zero_add,h.cellAt j hl]
  exact hu⟩⟩
structure aqO (w:World) (ok:Nat→Prop) (m:aqr) (code traps:Value):Prop where
 hcode:bqm w ok 1 m.code.length (m.code.map bV) code
 htraps:bqm w ok 4 m.traps.length (m.traps.flatMap bqK.cells) traps
def aqr.cells (m:aqr) (code traps:Value):List Value:= [.int .i64 m.acc, .int .i64 m.name, .int .i64 m.desc, .bool m.has, .int .i64 m.stack, .int .i64 m.locals,code,traps]
def bqs (ms:List (aqr×Value×Value)):List Value:=ms.flatMap fun m=>m.1.cells m.2.1 m.2.2
def aqc.cells (c:aqc) (pool ifs flds mths:Value):List Value:= [.int .i64 c.minor, .int .i64 c.major,pool, .int .i64 c.acc, .int .i64 c.this, .int .i64 c.sup,ifs,flds,mths]
structure aqy (w:World) (ok:Nat→Prop) (c:aqc) (pool ifs flds mths:Value):Prop where
 hpool:bqm w ok 5 c.pool.length (c.pool.flatMap Ko.cells) pool
 hifs:bqm w ok 1 c.ifs.length (c.ifs.map (Value.int .i64)) ifs
 hflds:bqm w ok 4 c.flds.length (c.flds.flatMap aqq.cells) flds
 hmths: ∃ms:List (aqr×Value×Value),ms.map (·.1)=c.mths∧bqm w ok 8 c.mths.length (bqs ms) mths∧ ∀m∈ms,aqO w ok m.1 m.2.1 m.2.2
theorem aqy.keep {w w':World} {ok:Nat→Prop} {c:aqc} {pool ifs flds mths:Value} (h:aqy w ok c pool ifs flds mths) (hk:aqC ok w w'):aqy w' ok c pool ifs flds mths where
 hpool:=h.hpool.keep hk
 hifs:=h.hifs.keep hk
 hflds:=h.hflds.keep hk
 hmths:=by
  obtain⟨ms,h1,h2,h3⟩:=h.hmths
  exact⟨ms,h1,h2.keep hk,fun m hm=> ⟨(h3 m hm).hcode.keep hk,(h3 m hm).htraps.keep hk⟩⟩
theorem aqy.mono {w:World} {ok ok':Nat→Prop} {c:aqc} {pool ifs flds mths:Value} (h:aqy w ok c pool ifs flds mths) (hs: ∀g,g<w.heap.size→ok g→ok' g):aqy w ok' c pool ifs flds mths where
 hpool:=h.hpool.mono hs
 hifs:=h.hifs.mono hs
 hflds:=h.hflds.mono hs
 hmths:=by
  obtain⟨ms,h1,h2,h3⟩:=h.hmths
  exact⟨ms,h1,h2.mono hs,fun m hm=> ⟨(h3 m hm).hcode.mono hs,(h3 m hm).htraps.mono hs⟩⟩
structure Rs where
 pos:Nat
 most:Nat
 named:Nat
 pool:List Ko
abbrev Rx (α:Type):=Except (Nat×Nat) (α×Rs)
def Rx.bind {α β:Type} (x:Rx α) (f:α→Rs→Rx β):Rx β:=
 match x with
 | .error e=> .error e
 | .ok (a,s)=>f a s
theorem Rx.bind_ok {α β:Type} (a:α) (s:Rs) (f:α→Rs→Rx β):Rx.bind (.ok (a,s)) f=f a s:=rfl
theorem Rx.bind_assoc {α β γ:Type} (x:Rx α) (f:α→Rs→Rx β) (g:β→Rs→Rx γ):Rx.bind (Rx.bind x f) g=Rx.bind x fun a s=>Rx.bind (f a s) g:=by
 rcases x with e| ⟨a,s⟩ <;>rfl
def aqP (l:List UInt8) (n:Nat) (st:Rs):Rx (List UInt8):=
 if l.length<st.pos+n then .error (st.pos,10) else if st.most<st.pos+n then .error (st.named,25) else .ok ((l.drop st.pos).take n,{ st with pos:=st.pos+n })
def beN (l:List UInt8):Nat:=l.foldl (fun v x=>v*256+x.toNat) 0
def aqS (l:List UInt8) (n:Nat) (st:Rs):Rx Nat:=Rx.bind (aqP l n st) fun b s=> .ok (beN b,s)
def bqo (l:List UInt8) (m:Nat) (st:Rs):Rx Nat:=Rx.bind (aqS l 2 st) fun n s=>if m<n then .error (st.pos,2) else .ok (n,s)
def dqG (n:Nat):Int:=if n<2147483648 then n else(n:Int) - 4294967296
def koP (l:List UInt8) (st:Rs):Rx Ko:=Rx.bind (aqS l 1 st) fun t s1=>
 if t=1 then Rx.bind (aqS l 2 s1) fun n s2=>Rx.bind (aqP l n s2) fun b s3=> .ok (⟨1,⟨b.toArray⟩,0,0,0⟩,s3)
 else if t=3 then Rx.bind (aqS l 4 s1) fun n s2=> .ok (⟨3,⟨#[]⟩,dqG n,0,0⟩,s2)
 else if t=7 then Rx.bind (aqS l 2 s1) fun n s2=> .ok (⟨7,⟨#[]⟩,0,n,0⟩,s2)
 else if t=9∨t=10∨t=11∨t=12 then Rx.bind (aqS l 2 s1) fun n s2=>Rx.bind (aqS l 2 s2) fun m s3=> .ok (⟨t,⟨#[]⟩,0,n,m⟩,s3)
 else .error (st.pos,13)
def bqO {α:Type} (f:Rs→Rx α):Nat→Rs→Rx (List α)
 |0,st=> .ok ([],st)
 |k+1,st=>Rx.bind (f st) fun a s=>Rx.bind (bqO f k s) fun r s'=> .ok (a::r,s')
def Rx.pre {α:Type} (cs:List α) (x:Rx (List α)):Rx (List α):=Rx.bind x fun r s=> .ok (cs++r,s)
theorem Rx.pre_nil {α:Type} (x:Rx (List α)):Rx.pre [] x=x:=by rcases x with e| ⟨a,s⟩ <;>rfl
theorem dqQ {α:Type} {f:Rs→Rx α} {k:Nat} {st:Rs} {cs:List α} {a:α} {s:Rs} (h:f st= .ok (a,s)):Rx.pre cs (bqO f (k+1) st)=Rx.pre (cs++ [a]) (bqO f k s):=by
 unfold Rx.pre
 rw [bqO,h,Rx.bind_ok,Rx.bind_assoc]
 congr 1
 funext r s'
 rw [Rx.bind_ok]
 simp
theorem dqR {α:Type} {f:Rs→Rx α} {k:Nat} {st:Rs} {cs:List α} {e:Nat×Nat} (h:f st= .error e):Rx.pre cs (bqO f (k+1) st)= .error e:=by
 unfold Rx.pre
 rw [bqO,h]
 rfl
theorem dq7 {α:Type} {f:Rs→Rx α} {st:Rs} {cs:List α}:Rx.pre cs (bqO f 0 st)= .ok (cs,st):=by
 unfold Rx.pre
 rw [bqO,Rx.bind_ok,List.append_nil]
def dqS (l:List UInt8) (st:Rs):Rx (Nat×ByteArray):=Rx.bind (aqS l 2 st) fun n s=>
 match(if n=0 then none else st.pool[n - 1]?) with
 |none=> .error (st.pos,20)
 |some k=>if k.tag=1 then .ok ((st.pos,k.text),s) else .error (st.pos,20)
def bqX {σ:Type} (l:List UInt8) (want:Option (List UInt8)) (act:σ→Nat→Nat→Rs→Rx σ):Nat→Bool→σ→Rs→Rx σ
 |0,_,x,st=> .ok (x,st)
 |k+1,seen,x,st=>Rx.bind (dqS l st) fun a s1=>
  if want=some a.2.toList∧seen=true then .error (a.1,24)
  else Rx.bind (aqS l 4 s1) fun long s2=>
   if want=some a.2.toList then Rx.bind (act x a.1 long s2) fun x' s3=>bqX l want act k true x' s3
   else Rx.bind (aqP l long s2) fun _ s3=>bqX l want act k seen x s3
def cqg {σ:Type} (l:List UInt8) (want:Option (List UInt8)) (act:σ→Nat→Nat→Rs→Rx σ) (x:σ) (st:Rs):Rx σ:=Rx.bind (aqS l 2 st) fun k s=>bqX l want act k false x s
def eqj (l:List UInt8) (st:Rs):Rx Unit:=cqg l none (fun x _ _ s=> .ok (x,s)) () st
def aqL:List UInt8:= "ConstantValue".toUTF8.data.toList
def fqu:List UInt8:= "Code".toUTF8.data.toList
def bqY (l:List UInt8) (st:Rs):Rx aqq:=Rx.bind (aqS l 2 st) fun a s1=>Rx.bind (aqS l 2 s1) fun n s2=>Rx.bind (aqS l 2 s2) fun d s3=>
 cqg l (some aqL) (fun f at' long s=>if long≠2 then .error (at',26) else Rx.bind (aqS l 2 s) fun v s'=> .ok ({ f with value:=v },s')) ⟨a,n,d,0⟩ s3
def dqa (l:List UInt8) (st:Rs):Rx bqK:=Rx.bind (aqS l 2 st) fun a s1=>Rx.bind (aqS l 2 s1) fun b s2=>Rx.bind (aqS l 2 s2) fun c s3=>Rx.bind (aqS l 2 s3) fun d s4=> .ok (⟨a,b,c,d⟩,s4)
def dqp (l:List UInt8) (m:aqr) (at' long:Nat) (st:Rs):Rx aqr:=
 Rx.bind (aqS l 2 { st with most:=st.pos+long,named:=at' }) fun sk s1=>Rx.bind (aqS l 2 s1) fun lo s2=>Rx.bind (aqS l 4 s2) fun n s3=>
  if 4096<n then .error (s2.pos,2)
  else Rx.bind (aqP l n s3) fun b s4=>Rx.bind (bqo l 64 s4) fun k s5=>Rx.bind (bqO (dqa l) k s5) fun ts s6=>Rx.bind (eqj l s6) fun _ s7=>
   if s7.pos≠s7.most then .error (at',25) else .ok ({ m with has:=true,stack:=sk,locals:=lo,code:=b,traps:=ts },{ s7 with most:=4611686018427387904 })
def cq5 (l:List UInt8) (st:Rs):Rx aqr:=Rx.bind (aqS l 2 st) fun a s1=>Rx.bind (aqS l 2 s1) fun n s2=>Rx.bind (aqS l 2 s2) fun d s3=>
 cqg l (some fqu) (fun m at' long s=>dqp l m at' long s) ⟨a,n,d,false,0,0, [], []⟩ s3
def mqx (l:List UInt8) (mi ma:Nat) (pool:List Ko) (a t u:Nat) (ifs:List Nat) (flds:List aqq) (mths:List aqr) (s:Rs):Rx aqc:=Rx.bind (eqj l s) fun _ s'=>
 if s'.pos<l.length then .error (s'.pos,14) else .ok (⟨mi,ma,pool,a,t,u,ifs.map Int.ofNat,flds,mths⟩,s')
def mqy (l:List UInt8) (mi ma:Nat) (pool:List Ko) (a t u:Nat) (ifs:List Nat) (flds:List aqq) (s:Rs):Rx aqc:=Rx.bind (bqo l 64 s) fun n s'=>Rx.bind (bqO (cq5 l) n s') (mqx l mi ma pool a t u ifs flds)
def nqP (l:List UInt8) (mi ma:Nat) (pool:List Ko) (a t u:Nat) (ifs:List Nat) (s:Rs):Rx aqc:=Rx.bind (bqo l 64 s) fun n s'=>Rx.bind (bqO (bqY l) n s') (mqy l mi ma pool a t u ifs)
def nq4 (l:List UInt8) (mi ma:Nat) (pool:List Ko) (s:Rs):Rx aqc:=Rx.bind (aqS l 2 { s with pool:=pool }) fun a s5=>Rx.bind (aqS l 2 s5) fun t s6=>Rx.bind (aqS l 2 s6) fun u s7=>
 Rx.bind (bqo l 64 s7) fun n s'=>Rx.bind (bqO (aqS l 2) n s') (nqP l mi ma pool a t u)
def bqP (l:List UInt8) (st:Rs):Rx aqc:=Rx.bind (aqS l 4 st) fun m s0=>if m≠3405691582 then .error (0,11)
 else Rx.bind (aqS l 2 s0) fun mi s1=>Rx.bind (aqS l 2 s1) fun ma s2=>Rx.bind (bqo l 1025 s2) fun n s3=>if n=0 then .error (s2.pos,20)
  else Rx.bind (bqO (koP l) (n - 1) s3) (nq4 l mi ma)
def bq6 (l:List UInt8):Except (Nat×Nat) aqc:=
 if 65536<l.length then .error (0,2)
 else match bqP l ⟨0,4611686018427387904,0, []⟩ with
  | .error e=> .error e
  | .ok (c,_)=> .ok c
theorem Bq9{p:Prop}(h:p:=by repeat' (first|with_reducible exact Below.refl _ _|with_reducible refine below_drewN ?_ _|with_reducible refine Below.drew ?_|with_reducible refine Below.setCell ?_ ?_ _|with_reducible refine Below.alloc ?_ ?_ _|omega| (simp;done) | (simp;omega))):p:=h
theorem Fx9{p:Prop}(h:p:=by first| (simp;done) | (simp;omega) |omega):p:=h
theorem Fy9{p:Prop}(h:p:=by first| (simp;done) | (simp;omega)):p:=h
theorem Sx9{p:Prop}(h:p:=by simp<;>omega):p:=h
theorem Dd9{p:Prop}(h:p:=by decide):p:=h
theorem Uf9{p:Prop}(h:p:=by unfold maxLen;omega):p:=h
theorem Sm9{p:Prop}(h:p:=by simp [maxLen]):p:=h
theorem Kq9{p:Prop}(h:p:=by kernel_rfl):p:=h
theorem Sd{p:Prop}(h:p:=by simp;omega):p:=h
theorem Mz{p:Prop}(h:p:=by simp only [maxLen];omega):p:=h
theorem Oc{p:Prop}(h:p:=by simp [Value.oneCell']):p:=h
end Go.Proofs.YtdbniocnjhfhdaaGreatDoor
