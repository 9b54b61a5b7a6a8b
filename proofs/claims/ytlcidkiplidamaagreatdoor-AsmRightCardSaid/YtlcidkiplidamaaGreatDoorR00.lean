/-
  What the laws rest on, part 0: walks of the program's functions and plain laws. Conditions: none but those that each theorem names.
-/
import Derived.Test.YtlcidkiplidamaaGreatDoorRows
import Derived.WalkKit
import Derived.WalkSpells
import Derived.WalkLawsBesides
import Derived.Lib.Hide
import Derived.Lib.OthersKept
import Derived.Maps.AppendAt
import Derived.Deep.AppendLies
import Derived.Maps.OwnSet
import Derived.Maps.OwnOps
import Derived.Laws.BytesArg
import Derived.StillTailTactics
import Derived.Deep.QuietTactic
import Derived.BigQuiet
set_option linter.unusedSimpArgs false
set_option linter.unusedVariables false
namespace Go.Proofs.YtlcidkiplidamaaGreatDoor
open Go Go.RowKit
theorem run_index_arr {P:Program} {t e n:Nat} {d:TypeDesc} {z:Value} {b:Nat} (ht:P.underlying t=some (.array n e)) (hd:P.underlying e=some d)
  (hna:(match d with| .struct _=>true| .array _ _=>true|_=>false)=false) (hi:(P.info? e).map (fun i=> (i.zero,i.size,i.bytes))=some (some z,1,b))
  (w:World) (k:IntKind) (cs:Array Value) (x:Int) (h0:0≤x) (hx:x<n) (hs:cs.size=n):
  (Instr.index t (.agg cs) (.int k x)).run P w= .ok (cs.getD x.toNat undef) w:=by
 obtain⟨i,hi,_,h1,_⟩:=info_parts hi
 have hlt:x.toNat<cs.size:=by omega
 have hag:(isAgg e).run P w= .ok false w:=by
  simp only [isAgg,run_underlying hd,Sem.run_bind,Result.andThen]
  cases d<;>simp_all
 simp only [Instr.index,asIntOf,run_underlying ht,Sem.run_bind,Sem.run_pure,Result.andThen,h0,hx,and_self,if_true,sizeOf,typeInfo,hi,h1,Nat.mul_one,part,hag]
 simp [hi,hag,hlt,Array.getD,h1]
noncomputable def runList (P:Program) (ops:Array Oper):List Oper→Act→World→Option (Act×World)
 | [],a,w=>some (a,w)
 |o::rest,a,w=>
  match Region.wanted o (yielded ops a.tmps) with
  |true=>
   match(execOp a.eval o).run P w with
   | .ok (.value v) w'=>runList P ops rest (a.put o.dst v) w'
   | .ok .skip w'=>runList P ops rest (a.put o.dst undef) w'
   |_=>none
  |false=>runList P ops rest (a.put o.dst undef) w
theorem wpList_runList {P:Program} {ops:Array Oper} {Q:Exit→Act→World→Prop}: ∀(l:List Oper) (a:Act) (w:World) (a':Act) (w':World),
  runList P ops l a w=some (a',w')→Q .normal a' w'→wpList P ops Q l a w
 | [],a,w,a',w',h,hq=>by
  simp only [runList,Option.some.injEq,Prod.mk.injEq] at h
  obtain⟨rfl,rfl⟩:=h
  exact hq
 |o::rest,a,w,a',w',h,hq=>by
  unfold runList at h
  unfold wpList
  split at h
  ·rename_i hw
   rw [if_pos hw]
   left
   unfold Oper.wp
   split at h
   ·rename_i v w1 hr
    rw [hr]
    exact wpList_runList rest _ _ _ _ h hq
   ·rename_i w1 hr
    rw [hr]
    exact wpList_runList rest _ _ _ _ h hq
   ·cases h
  ·rename_i hw
   rw [if_neg (by rw [hw];decide)]
   exact wpList_runList rest _ _ _ _ h hq
theorem wpList_run {P:Program} {ops:Array Oper} {Q:Exit→Act→World→Prop} {l:List Oper} {a:Act} {w:World} (t:Tmp) (v:Value) (w':World)
  (h:(runList P ops l a w).map (fun r=> (r.1.tmps.getD t undef,r.1.defers,r.2))=some (v, [],w'))
  (hq: ∀a':Act,a'.tmps.getD t undef=v→a'.defers= []→Q .normal a' w'):wpList P ops Q l a w:=by
 obtain⟨⟨a',w1⟩,hr,he⟩:=Option.map_eq_some_iff.1 h
 simp only [Prod.mk.injEq] at he
 obtain⟨h1,h2,rfl⟩:=he
 exact wpList_runList l a w a' w1 hr (hq a' h1 h2)
theorem bcell {W w1:World} (hb:Below W.heap.size W w1):(∀b o,b<W.heap.size→w1.cell? ⟨b,o,none⟩=W.cell? ⟨b,o,none⟩)∧(∀b o,b<W.heap.size→w1.frozen? ⟨b,o,none⟩=W.frozen? ⟨b,o,none⟩):=
 ⟨fun b o h=>hb.cell (p:=⟨b,o,none⟩) h,fun b o h=>hb.frozen (p:=⟨b,o,none⟩) h⟩
theorem cells_new (w:World) (l:List Value) (t:TypeId): ∀j u,l[j]?=some u→(w.alloc (.cells l.toArray t)).cell? ((⟨w.heap.size,0,none⟩:Addr).add j)=some u:=by
 intro j u hj
 have e:((⟨w.heap.size,0,none⟩:Addr).add j)=⟨w.heap.size,j,none⟩:=by
  unfold Addr.add
  split<;>simp_all
 rw [e]
 unfold World.cell?
 rw [heap_alloc_new]
 simpa using hj
theorem wpl_append {P:Program} {w:World} {ops:Array Oper} {rest:List Oper} {o:Oper} {a:Act} {Q:Exit→Act→World→Prop} (hgd:o.guard=none) (s x:Operand) (t:TypeId)
  (ho:o.op= .call { callee:= .builtin .append,args:= #[s,x],argTypes:= #[t,t] }) {e:TypeId} {z:Value} {size bytes:Nat}
  (ht:P.underlying t=some (.slice e)) (hi:(P.info? e).map (fun i=> (i.zero,i.size,i.bytes))=some (some z,size,bytes)) (hzs:z.cells.size=size) (hsz:0<size)
  (base:Nat) {v:Value} {n:Nat} {xs:List Value} (hs:a.eval s=v) (hown:w.ownsRow base e size v n xs)
  {ad:Addr} {m c:Nat} {news:List Value} (hx:a.eval x= .slice (some ad) m c) (hl:news.length=m*size) (hnews: ∀j u,news[j]?=some u→w.cell? (ad.add j)=some u) (h1: ∀u∈news,u.oneCell'=true)
  (h63:n+m≤maxLen) (hbytes:(n+m)*bytes≤140737488355328) (hbase:base≤w.heap.size)
  (h: ∀v' w',w'.ownsRow base e size v' (n+m) (xs++news)→w.grownBy w' v.ownBlock→Below base w w'→wpList P ops Q rest (a.put o.dst v') w'):wpList P ops Q (o::rest) a w:=by
 obtain⟨i,hi,hz,hsize,hby⟩:=info_parts hi
 refine wpList_append_own w hgd s x t ho base e i z size bytes ht hi hz hsize hby hzs hsz v n xs hs hown ad m c news hx hl hnews h1 h63 hbytes hbase fun v' w' h2 h3 _=>h v' w' h2 h3 ?_
 exact(Below.refl _ _).grown h3 hbase fun k hk=> (hown.lt k hk).1
theorem info_u8:(Tryz.prog.info? 5).map (fun i=> (i.zero,i.size,i.bytes))=some (some (.int .u8 0),1,1):=by kernel_rfl
theorem info_int:(Tryz.prog.info? 3).map (fun i=> (i.zero,i.size,i.bytes))=some (some (.int .i64 0),1,8):=by kernel_rfl
theorem info_string:(Tryz.prog.info? 9).map (fun i=> (i.zero,i.size,i.bytes))=some (some (.string ⟨#[]⟩),1,16):=by kernel_rfl
end Go.Proofs.YtlcidkiplidamaaGreatDoor
namespace Go.Proofs.YtlcidkiplidamaaGreatDoor
open Go Go.RowKit Lib
theorem iterAt_cell (w:World) (k:Nat) (s:ByteArray) (pos pos':Nat) (hk:w.heap[k]?=some (.stringIter s pos)) (a:Addr):(w.iterAt k s pos').cell? a=w.cell? a:=by
 by_cases h:a.block=k
 ·unfold World.cell?
  rw [h,iterAt_heap w k s pos pos' hk,hk]
 ·exact World.cell?_of_block (iterAt_other w k a.block s pos' h)
theorem iterAt_frozen (w:World) (k:Nat) (s:ByteArray) (pos pos':Nat) (hk:w.heap[k]?=some (.stringIter s pos)) (a:Addr):(w.iterAt k s pos').frozen? a=w.frozen? a:=by
 by_cases h:a.block=k
 ·unfold World.frozen?
  rw [h,iterAt_heap w k s pos pos' hk,hk]
 ·exact World.frozen?_of_block (iterAt_other w k a.block s pos' h)
theorem far (x n:Nat) (h:x<n):x<n∧x<n+1∧x<n+1+1∧x<n+1+1+1∧ ¬x=n∧ ¬x=n+1∧ ¬x=n+1+1∧ ¬x=n+1+1+1∧ ¬n=x∧ ¬n+1=x∧ ¬n+1+1=x∧ ¬n+1+1+1=x:=by omega
theorem iter_heap_at (w:World) (k:Nat) (hk:k=w.heap.size) (s:ByteArray) (pos:Nat):(w.iter s pos).heap[k]?=some (.stringIter s pos):=by
 subst hk
 exact World.iter_heap w s pos
theorem below_iter {B:Nat} {a w:World} (h:Below B a w) (hB:B≤w.heap.size) (s:ByteArray) (pos:Nat):Below B a (w.iter s pos):=h.alloc hB _
theorem wpl_next {P:Program} {W:World} {ops:Array Oper} {rest:List Oper} {o:Oper} {a:Act} {Q:Exit→Act→World→Prop} {x:Operand} (hop:o.op= .next x true) (hgd:o.guard=none)
  {k:Nat} {s:ByteArray} {pos:Nat} (hx:a.eval x= .pointer (some ⟨k,0,none⟩)) (hk:W.heap[k]?=some (.stringIter s pos)) (c:Nat) (hc:s.data.toList[pos]?=some (UInt8.ofNat c)) (h1:c<128)
  (h: ∀W':World,W'.heap[k]?=some (.stringIter s (pos+1))→(∀b,W'.cell? b=W.cell? b)→(∀b,W'.frozen? b=W.frozen? b)→W'.heap.size=W.heap.size→(∀j,j≠k→W'.heap[j]?=W.heap[j]?)→Hid (Below k W W')→
   wpList P ops Q rest (a.put o.dst (.tuple #[.bool true, .int .i64 pos, .int .i32 c])) W'):wpList P ops Q (o::rest) a W:=by
 have hlt:pos<s.size:=by
  have:=(List.getElem?_eq_some_iff.1 hc).1
  simpa using this
 have hv:(s[pos]'hlt).toNat=c:=by
  have:=(List.getElem?_eq_some_iff.1 hc).2
  have e:s[pos]'hlt=s.data.toList[pos]'(by simpa using hlt):=rfl
  rw [e,this]
  simp [UInt8.toNat_ofNat]
  omega
 refine wpList_plain hgd fun K hK=> ?_
 have hr:=run_next_ascii_at (P:=P) W k s pos o.type hk hlt (by omega)
 unfold Oper.wp execOp
 simp only [hop,hx,hr,Sem.run_bind,Result.andThen_ok,Sem.run_pure]
 rw [hv]
 exact hK _ _ (h (W.iterAt k s (pos+1)) (iterAt_heap W k s pos _ hk) (iterAt_cell W k s pos _ hk) (iterAt_frozen W k s pos _ hk) (iterAt_size W k s _) (fun j hj=>iterAt_other W k j s _ hj) (below_iterAt (Below.refl _ _) (Nat.le_refl _) _ _))
theorem wpl_next_end {P:Program} {W:World} {ops:Array Oper} {rest:List Oper} {o:Oper} {a:Act} {Q:Exit→Act→World→Prop} {x:Operand} (hop:o.op= .next x true) (hgd:o.guard=none)
  {k:Nat} {s:ByteArray} {pos:Nat} (hx:a.eval x= .pointer (some ⟨k,0,none⟩)) (hk:W.heap[k]?=some (.stringIter s pos)) (hc:s.data.toList.length≤pos)
  (h:wpList P ops Q rest (a.put o.dst (.tuple #[.bool false])) W):wpList P ops Q (o::rest) a W:=by
 have hlt: ¬pos<s.size:=by
  have:s.data.toList.length=s.size:=by simp
  omega
 refine wpList_plain hgd fun K hK=> ?_
 have hr:=run_next_end_at (P:=P) W k s pos o.type hk hlt
 unfold Oper.wp execOp
 simp only [hop,hx,hr,Sem.run_bind,Result.andThen_ok,Sem.run_pure]
 exact hK _ _ h
theorem run_append_nothing {P:Program} (w:World) (base:Nat) (t ty e:TypeId) (i:TypeInfo) (size:Nat) (ht:P.underlying t=some (.slice e)) (hi:P.info? e=some i)
  (v:Value) (n:Nat) (xs:List Value) (hown:w.ownsRow base e size v n xs) (c:Nat):(Builtin.append_ #[t,t] ty #[v, .slice none 0 c]).run P w= .ok v w:=by
 rcases hown.2 with⟨rfl,rfl⟩ | ⟨g,cap,cur,rfl,_,_,hnc,_⟩
 ·simp [Builtin.append_,run_underlying ht,sizeOf,typeInfo,hi,Builtin.lenOf,Builtin.firstCells]
 ·simp [Builtin.append_,run_underlying ht,sizeOf,typeInfo,hi,Builtin.lenOf,Builtin.firstCells,hnc,storeCells]
theorem wpl_lies {P:Program} {w:World} {ops:Array Oper} {rest:List Oper} {o:Oper} {a:Act} {Q:Exit→Act→World→Prop} (hgd:o.guard=none) (s x:Operand) (t:TypeId)
  (ho:o.op= .call { callee:= .builtin .append,args:= #[s,x],argTypes:= #[t,t] }) {e:TypeId} {z:Value} {size bytes:Nat}
  (ht:P.underlying t=some (.slice e)) (hi:(P.info? e).map (fun i=> (i.zero,i.size,i.bytes))=some (some z,size,bytes)) (hzs:z.cells.size=size) (hsz:0<size)
  (base:Nat) {v:Value} {n:Nat} {xs:List Value} (hs:a.eval s=v) (hown:w.ownsRow base e size v n xs)
  {A:Option Addr} {m c:Nat} {news:List Value} (hx:a.eval x= .slice A m c) (hl:news.length=m*size) (hnews:0<m→ ∃ad,A=some ad∧ ∀j u,news[j]?=some u→w.cell? (ad.add j)=some u) (h1: ∀u∈news,u.oneCell'=true)
  (hpos:0<n+m) (h63:n+m≤maxLen) (hbytes:(n+m)*bytes≤140737488355328) (hbase:base≤w.heap.size)
  (h: ∀g cap w',w'.ownsRow base e size (.slice (some ⟨g,0,none⟩) (n+m) cap) (n+m) (xs++news)→w.grownBy w' v.ownBlock→Below base w w'→(v.ownBlock=some g∨g=w.heap.size)→g<w'.heap.size→
   wpList P ops Q rest (a.put o.dst (.slice (some ⟨g,0,none⟩) (n+m) cap)) w'):wpList P ops Q (o::rest) a w:=by
 obtain⟨i,hi,hz,hsize,hby⟩:=info_parts hi
 have hrun: ∃v' w',(Builtin.append_ #[t,t] o.type #[v, .slice A m c]).run P w= .ok v' w'∧w'.ownsRow base e size v' (n+m) (xs++news)∧w.grownBy w' v.ownBlock∧(v'.ownBlock=v.ownBlock∨v'.ownBlock=some w.heap.size):=by
  rcases A with _|ad
  ·have hm:m=0:=by
    rcases Nat.eq_zero_or_pos m with h0|h0
    ·exact h0
    ·obtain⟨ad,h,_⟩:=hnews h0
     cases h
   subst hm
   have hn:news= []:=List.eq_nil_of_length_eq_zero (by simpa using hl)
   subst hn
   exact⟨v,w,run_append_nothing w base t o.type e i size ht hi v n xs hown c,by simpa using hown,World.grownBy.refl w _, .inl rfl⟩
  ·have hcells: ∀j u,news[j]?=some u→w.cell? (ad.add j)=some u:=by
    intro j u hu
    rcases Nat.eq_zero_or_pos m with h0|h0
    ·subst h0
     have hn:news= []:=List.eq_nil_of_length_eq_zero (by simpa using hl)
     subst hn
     simp at hu
    ·obtain⟨ad',h,hc⟩:=hnews h0
     injection h with h
     subst h
     exact hc j u hu
   obtain⟨v',w',hrun,h2,h3,_,h5⟩:=run_append_own_at (P:=P) w base t o.type e i z size bytes ht hi hz hsize hby hzs hsz v n xs hown ad m c news hl hcells h1 h63 hbytes hbase
   exact⟨v',w',hrun,h2,h3,h5⟩
 obtain⟨v',w',hr,h2,h3,h5⟩:=hrun
 obtain⟨g,cap,rfl,hg,hlt⟩:=h2.form hpos
 refine wpList_plain hgd fun K hK=> ?_
 unfold Oper.wp execOp
 simp only [ho,resolve,invoke,builtin,Sem.run_bind,Sem.run_pure,Result.andThen_ok,List.map_toArray,List.map_cons,List.map_nil,hs,hx,hr]
 refine hK _ _ (h g cap w' h2 h3 ((Below.refl _ _).grown h3 hbase fun k hk=> (hown.lt k hk).1) ?_ hlt)
 rcases h5 with h5|h5
 ·exact .inl (by rw [←h5];rfl)
 ·exact .inr (by simpa [Value.ownBlock] using h5)
theorem own_new (w:World) (xs:List Value) (e:TypeId) (base n:Nat) (hb:base≤w.heap.size) (hn:n=xs.length) (hm:n≤maxLen):
  (w.alloc (.cells xs.toArray e)).ownsRow base e 1 (.slice (some ⟨w.heap.size,0,none⟩) n n) n xs:=by
 subst hn
 refine⟨by simp, .inr ⟨w.heap.size,xs.length,xs.toArray,rfl,hb,heap_alloc_new w _,Nat.le_refl _,hm,by simp,by simp⟩⟩
def byt (l:List UInt8) (k:Nat):Nat:=(l.getD k 0).toNat
theorem byt_lt (l:List UInt8) (k:Nat):byt l k<256:=(l.getD k 0).toNat_lt
def bV (b:UInt8):Value:= .int .u8 b.toNat
theorem bV_get (l:List UInt8) (i:Nat) (hi:i<l.length):(l.map bV)[i]?=some (.int .u8 (byt l i)):=by
 rw [List.getElem?_map,List.getElem?_eq_getElem hi]
 simp [byt,List.getD,List.getElem?_eq_getElem hi,bV]
theorem bV_one (l:List UInt8): ∀u∈l.map bV,u.oneCell'=true:=by
 intro u hu
 obtain⟨_,_,rfl⟩:=List.mem_map.1 hu
 rfl
structure RdB (w:World) (A:Option Addr) (len cap:Nat) (l:List UInt8):Prop where
 hlen:len=l.length
 hle:len≤cap
 hmax:len≤9223372036854775807
 hat:0<len→ ∃b off,A=some ⟨b,off,none⟩∧b<w.heap.size∧ ∀i,i<len→w.cell? ⟨b,off+i,none⟩=some (.int .u8 (byt l i))
theorem RdB.below {w w':World} {A:Option Addr} {len cap:Nat} {l:List UInt8} (h:RdB w A len cap l) (hb:Below w.heap.size w w'):RdB w' A len cap l:=
 ⟨h.hlen,h.hle,h.hmax,fun h0=>by
  obtain⟨b,off,e,hlt,hc⟩:=h.hat h0
  exact⟨b,off,e,Nat.lt_of_lt_of_le hlt hb.size,fun i hi=> (hb.cell (p:=⟨b,off+i,none⟩) hlt).trans (hc i hi)⟩⟩
theorem RdB.alloc {w:World} {A:Option Addr} {len cap:Nat} {l:List UInt8} (h:RdB w A len cap l) (o:Obj):RdB (w.alloc o) A len cap l:=h.below ((Below.refl _ _).alloc (Nat.le_refl _) _)
theorem RdB.drewN {w:World} {A:Option Addr} {len cap:Nat} {l:List UInt8} (h:RdB w A len cap l) (n:Nat):RdB (w.drewN n) A len cap l:=h.below (below_drewN (Below.refl _ _) n)
theorem add_cell (b off j:Nat):((⟨b,off,none⟩:Addr).add j)=⟨b,off+j,none⟩:=by
 unfold Addr.add
 split<;>simp_all
theorem RdB.src {w:World} {A:Option Addr} {len cap:Nat} {l:List UInt8} (h:RdB w A len cap l):0<len→ ∃ad,A=some ad∧ ∀j u,(l.map bV)[j]?=some u→w.cell? (ad.add j)=some u:=fun h0=>by
 obtain⟨b,off,e,hlt,hc⟩:=h.hat h0
 refine⟨_,e,fun j u hu=> ?_⟩
 have hj:j<l.length:=by
  have:=(List.getElem?_eq_some_iff.1 hu).1
  simpa using this
 rw [bV_get l j hj] at hu
 injection hu with hu
 subst hu
 rw [add_cell]
 exact hc j (by rw [h.hlen];exact hj)
theorem rdB_new (w:World) (l:List UInt8) (t:TypeId) (n:Nat) (hn:n=l.length) (hm:l.length≤9223372036854775807):RdB (w.alloc (.cells (l.map bV).toArray t)) (some ⟨w.heap.size,0,none⟩) n n l:=by
 subst hn
 refine⟨rfl,Nat.le_refl _,hm,fun _=> ⟨w.heap.size,0,rfl,by simp,fun i hi=> ?_⟩⟩
 have h:=cells_new w (l.map bV) t i _ (bV_get l i hi)
 rw [add_cell] at h
 exact h
theorem rdB_own {w:World} {base:Nat} {e:TypeId} {g n cap:Nat} {l:List UInt8} (h:w.ownsRow base e 1 (.slice (some ⟨g,0,none⟩) n cap) n (l.map bV)):RdB w (some ⟨g,0,none⟩) n cap l:=by
 have hn:n=l.length:=by
  have:=h.1
  simpa using this.symm
 have hc:n≤cap∧cap≤maxLen:=by
  rcases h.2 with⟨hv,_⟩ | ⟨g',cap',cur,hv,_,_,h1,h2,_⟩
  ·cases hv
  ·injection hv with _ _ h3
   subst h3
   exact⟨h1,h2⟩
 refine⟨hn,hc.1,by have:=hc.2;unfold maxLen at this;omega,fun h0=> ⟨g,0,rfl,(h.lt g rfl).2,fun i hi=> ?_⟩⟩
 rw [Nat.zero_add,h.cellAt i (by omega)]
 exact bV_get l i (by omega)
theorem own_eq {w:World} {base:Nat} {e:TypeId} {size n m:Nat} {v:Value} {xs ys:List Value} (h:w.ownsRow base e size v n xs) (hn:n=m) (hx:xs=ys):w.ownsRow base e size v m ys:=by
 subst hn
 subst hx
 exact h
theorem bV_ofNat (c:Nat) (h:c<256):Value.int .u8 (c:Int)=bV (UInt8.ofNat c):=by
 unfold bV
 rw [UInt8.toNat_ofNat',Nat.mod_eq_of_lt (by omega)]
theorem byt_take (l:List UInt8) (n i:Nat) (h:i<n):byt (l.take n) i=byt l i:=by
 unfold byt
 rw [List.getD_eq_getElem?_getD,List.getD_eq_getElem?_getD,List.getElem?_take,if_pos h]
theorem RdB.take {w:World} {A:Option Addr} {len cap:Nat} {l:List UInt8} (h:RdB w A len cap l) (n:Nat) (hn:n≤len):RdB w A n cap (l.take n):=
 ⟨by have:=h.hlen;rw [List.length_take];omega,by have:=h.hle;omega,by have:=h.hmax;omega,fun h0=>by
  obtain⟨b,off,e,hlt,hc⟩:=h.hat (by omega)
  exact⟨b,off,e,hlt,fun i hi=>by rw [byt_take l n i hi];exact hc i (by omega)⟩⟩
theorem pad_succ (c:UInt8) (l:List UInt8) (j:Nat):(c::l++List.replicate j 0).map bV++ [Value.int .u8 0]=(c::l++List.replicate (j+1) 0).map bV:=by
 rw [List.replicate_succ', ←List.append_assoc,List.map_append (l₂:= [0])]
 rfl
def lenOf:Value→Nat
 | .slice _ n _=>n
 |_=>0
theorem own_heap {w w':World} {base:Nat} {e:TypeId} {size n:Nat} {v:Value} {xs:List Value} (h:w.ownsRow base e size v n xs) (hk: ∀g,v.ownBlock=some g→w'.heap[g]?=w.heap[g]?):w'.ownsRow base e size v n xs:=by
 rcases h.2 with⟨rfl,h0⟩ | ⟨g,cap,cur,rfl,hb,hg,r⟩
 ·exact⟨h.1, .inl ⟨rfl,h0⟩⟩
 ·exact⟨h.1, .inr ⟨g,cap,cur,rfl,hb,(hk g rfl).trans hg,r⟩⟩
theorem grown_facts {w w':World} {v:Value} {g:Nat} (h:w.grownBy w' v.ownBlock) (hv:v.ownBlock=some g):
  (∀b o,b<w.heap.size→b≠g→w'.cell? ⟨b,o,none⟩=w.cell? ⟨b,o,none⟩)∧(∀b o,b<w.heap.size→b≠g→w'.frozen? ⟨b,o,none⟩=w.frozen? ⟨b,o,none⟩)∧
   (∀b,b<w.heap.size→b≠g→w'.heap[b]?=w.heap[b]?)∧w.heap.size≤w'.heap.size:=by
 have hb: ∀b,b<w.heap.size→b≠g→w'.heap[b]?=w.heap[b]?:=fun b hlt hne=>h.block b hlt (by rw [hv];intro e;injection e with e;exact hne e)
 exact⟨fun b o hlt hne=>World.cell?_of_block (hb b hlt hne),fun b o hlt hne=>World.frozen?_of_block (hb b hlt hne),hb,h.size⟩
theorem cells_new_at (w:World) (l:List Value) (t:TypeId) (k:Nat) (hk:k=w.heap.size): ∀j u,l[j]?=some u→(w.alloc (.cells l.toArray t)).cell? ((⟨k,0,none⟩:Addr).add j)=some u:=by
 subst hk
 exact cells_new w l t
def Stop (p:Prop):Prop:=p
theorem stop_here {p:Prop} (h:Stop p):p:=h
theorem go_on {p:Prop} (h:p):Stop p:=h
theorem own_set {w:World} {base:Nat} {e:TypeId} {size n g cap:Nat} {xs:List Value} (h:w.ownsRow base e size (.slice (some ⟨g,0,none⟩) n cap) n xs) {p:Addr} (hp:g≠p.block) (u:Value):
  (w.setCell p u).ownsRow base e size (.slice (some ⟨g,0,none⟩) n cap) n xs:=
 own_heap h fun k hk=>by
  simp only [Value.ownBlock,Option.some.injEq] at hk
  subst hk
  exact Below.heap_setCell w p u _ hp
end Go.Proofs.YtlcidkiplidamaaGreatDoor
namespace Go.Proofs.YtlcidkiplidamaaGreatDoor
open Go Go.RowKit Lib Go.Maps
def tokR (v:Value):Option (DataW Value×List MemPlace):=some (.held v, [])
def MapS (w:World) (P:Program) (k:TypeId) (b n:Nat) (f:List UInt8→Option Value) (sz:Nat):Prop:=
 ∃D:DataW Value,w.ownsMap P k tokR b n D∧Maps.size D=sz∧(∀s z,D.atKey (.string s) z=((f s).map DataW.held).getD z)∧ ∀s,Maps.has D (.string s)=(f s).isSome
def putF (f:List UInt8→Option Value) (k:List UInt8) (v:Value):List UInt8→Option Value:=fun s=>if s=k then some v else f s
def delF (f:List UInt8→Option Value) (k:List UInt8):List UInt8→Option Value:=fun s=>if s=k then none else f s
theorem mapS_made (w:World) (P:Program) (k:TypeId):MapS (w.alloc (.map #[] 0)) P k w.heap.size 0 (fun _=>none) 0:=
 ⟨.map [],World.ownsMap_made _ _ _ _,rfl,fun _ _=>rfl,fun _=>rfl⟩
theorem MapS.lt {w:World} {P:Program} {k:TypeId} {b n sz:Nat} {f:List UInt8→Option Value} (h:MapS w P k b n f sz):b<w.heap.size:=by
 obtain⟨D,h,_⟩:=h
 exact h.lt
theorem MapS.keep {w w':World} {P:Program} {k:TypeId} {b n sz:Nat} {f:List UInt8→Option Value} (h:MapS w P k b n f sz) (hb:w'.heap[b]?=w.heap[b]?):MapS w' P k b n f sz:=by
 obtain⟨D,⟨es,clock,h1,h2⟩,r⟩:=h
 exact⟨D,⟨es,clock,hb.trans h1,h2⟩,r⟩
theorem MapS.size_le {w:World} {P:Program} {k:TypeId} {b n sz:Nat} {f:List UInt8→Option Value} (h:MapS w P k b n f sz):sz≤n:=by
 obtain⟨D,h,rfl,_⟩:=h
 exact h.size_le
section
variable {P:Program} {w:World} {ops:Array Oper} {rest:List Oper} {o:Oper} {a:Act} {Q:Exit→Act→World→Prop} {k e t:TypeId} {b n sz:Nat} {f:List UInt8→Option Value}
theorem held_of {v z:Value} {x:Option Value} {ps:List MemPlace} (h:tokR v=some ((x.map DataW.held).getD (.held z),ps)):v=x.getD z:=by
 unfold tokR at h
 cases x<;>simp at h<;>simp [h.1]
theorem wpl_look (hg:o.guard=none) (m x:Operand) (hop:o.op=Op.lookup t m x true) (hk:P.underlying k=some .string) (ht:P.underlying t=some (.map k e)) {z:Value} (hz:(zeroValue e).run P w= .ok z w)
  (hm:a.eval m= .map (some b)) (h:MapS w P k b n f sz) {s:ByteArray} (hx:a.eval x= .string s) (hs:s.size≤maxLen)
  (hK:wpList P ops Q rest (a.put o.dst (.tuple #[(f s.data.toList).getD z, .bool (f s.data.toList).isSome])) w):wpList P ops Q (o::rest) a w:=by
 obtain⟨D,hown,_,hat,hh⟩:=h
 refine wpList_lookup_own_ok w hg m x t hop k e (string_keyed hk) ht tokR hz (.held z) [] rfl b n D hm hown (.string s) _ hx (Go.WideMaps.keyOf_string_mk hk hs) fun v ps hv=> ?_
 rw [hat] at hv
 rw [held_of hv,hh]
 exact hK
theorem wpl_get (hg:o.guard=none) (m x:Operand) (hop:o.op=Op.lookup t m x false) (hk:P.underlying k=some .string) (ht:P.underlying t=some (.map k e)) {z:Value} (hz:(zeroValue e).run P w= .ok z w)
  (hm:a.eval m= .map (some b)) (h:MapS w P k b n f sz) {s:ByteArray} (hx:a.eval x= .string s) (hs:s.size≤maxLen)
  (hK:wpList P ops Q rest (a.put o.dst ((f s.data.toList).getD z)) w):wpList P ops Q (o::rest) a w:=by
 obtain⟨D,hown,_,hat,hh⟩:=h
 obtain⟨v,ps,hrun,hv⟩:=hown.lookup (string_keyed hk) ht hz (R:=tokR) rfl (Go.WideMaps.keyOf_string_mk hk hs)
 rw [hat] at hv
 refine wpList_plain hg fun K' hK'=> ?_
 unfold Oper.wp
 simp [execOp,hop,hm,hx,hrun,Result.andThen]
 rw [held_of hv]
 exact hK' _ _ hK
theorem wpl_mlen (hg:o.guard=none) (m:Operand) (hop:o.op=Op.call { callee:=Callee.builtin Builtin.len,args:= #[m],argTypes:= #[t] }) (ht:P.underlying t=some (.map k e))
  (hm:a.eval m= .map (some b)) (h:MapS w P k b n f sz) (hK:wpList P ops Q rest (a.put o.dst (.int .i64 sz)) w):wpList P ops Q (o::rest) a w:=by
 obtain⟨D,hown,rfl,_⟩:=h
 exact wpList_len_own w hg m t hop k e ht tokR b n D hm hown hK
theorem lit_ne {s k:List UInt8} (h:s≠k):Lit.string s≠Lit.string k:=fun e=>h (by injection e)
theorem wpl_put (hg:o.guard=none) (m x v:Operand) (hop:o.op=Op.mapUpdate t m x v) (hk:P.underlying k=some .string) (ht:P.underlying t=some (.map k e))
  (hm:a.eval m= .map (some b)) (h:MapS w P k b n f sz) (hn:n<maxLen) {s:ByteArray} (hx:a.eval x= .string s) (hs:s.size≤maxLen) {u:Value} (hv:a.eval v=u)
  (hK: ∀w',MapS w' P k b (n+1) (putF f s.data.toList u) (if(f s.data.toList).isSome then sz else sz+1)→w.grownBy w' (some b)→wpList P ops Q rest (a.put o.dst undef) w'):wpList P ops Q (o::rest) a w:=by
 obtain⟨D,hown,hsz,hat,hh⟩:=h
 have ht':=hown.tidy (string_keyed hk)
 refine wpList_mapUpdate_in w hg m x v t hop k e (string_keyed hk) ht tokR b n D hm hown hn (.string s) u _ hx hv (Go.WideMaps.keyOf_string_mk hk hs) (.held u) [] rfl fun w' h1 h2=>hK w' ⟨_,h1, ?_, ?_, ?_⟩ h2.grown
 ·rw [size_put ht',hh,hsz]
 ·intro s' z
  unfold putF
  by_cases hs':s'=s.data.toList
  ·subst hs'
   rw [atKey_put_same ht'.isMap (by simp [WideAt.IsKeyLit]),if_pos rfl]
   rfl
  ·rw [atKey_put_other (lit_ne hs'),if_neg hs',hat]
 ·intro s'
  unfold putF
  by_cases hs':s'=s.data.toList
  ·subst hs'
   rw [has_put_same ht'.isMap (by simp [WideAt.IsKeyLit]),if_pos rfl]
   rfl
  ·rw [has_put_other (lit_ne hs'),if_neg hs',hh]
theorem wpl_del (hg:o.guard=none) (m x:Operand) (hop:o.op=Op.call { callee:=Callee.builtin Builtin.delete,args:= #[m,x],argTypes:= #[t,k] }) (hk:P.underlying k=some .string) (ht:P.underlying t=some (.map k e))
  (hm:a.eval m= .map (some b)) (h:MapS w P k b n f sz) {s:ByteArray} (hx:a.eval x= .string s) (hs:s.size≤maxLen)
  (hK: ∀w',MapS w' P k b n (delF f s.data.toList) (if(f s.data.toList).isSome then sz - 1 else sz)→w.grownBy w' (some b)→wpList P ops Q rest (a.put o.dst (.tuple #[])) w'):wpList P ops Q (o::rest) a w:=by
 obtain⟨D,hown,hsz,hat,hh⟩:=h
 have ht':=hown.tidy (string_keyed hk)
 refine wpList_delete_own w hg m x t k hop e (string_keyed hk) ht tokR b n D hm hown (.string s) _ hx (Go.WideMaps.keyOf_string_mk hk hs) fun w' h1 h2=>hK w' ⟨_,h1, ?_, ?_, ?_⟩ h2.grown
 ·have:=size_del (k:= .string s.data.toList) ht'
  rw [hh,hsz] at this
  split at this<;>simp_all<;>omega
 ·intro s' z
  unfold delF
  by_cases hs':s'=s.data.toList
  ·subst hs'
   rw [atKey_del_same,if_pos rfl]
   rfl
  ·rw [atKey_del_other (lit_ne hs'),if_neg hs',hat]
 ·intro s'
  unfold delF
  by_cases hs':s'=s.data.toList
  ·subst hs'
   rw [has_del_same,if_pos rfl]
   rfl
  ·rw [has_del_other (lit_ne hs'),if_neg hs',hh]
end
end Go.Proofs.YtlcidkiplidamaaGreatDoor
namespace Go.Proofs.YtlcidkiplidamaaGreatDoor
open Go Go.RowKit Lib
theorem strOf_bytes (l:List UInt8):strOfNums (l.map fun x=> (x.toNat:Int))=⟨l.toArray⟩:=by
 unfold strOfNums
 congr 1
 rw [List.map_map]
 congr 1
 conv=>rhs;rw [←List.map_id l]
 apply List.map_congr_left
 intro x _
 simp
theorem RdB.str {w:World} {A:Option Addr} {len cap:Nat} {l:List UInt8} (h:RdB w A len cap l):(convert 34 9 (.slice A len cap)).run Tryz.prog w= .ok (.string ⟨l.toArray⟩) w:=by
 rcases Nat.eq_zero_or_pos len with h0|h0
 ·have hl:l= []:=List.eq_nil_of_length_eq_zero (by have:=h.hlen;omega)
  subst hl
  subst h0
  rw [run_convert_bytes_string (P:=Tryz.prog) w 34 9 5 A 0 cap Tryz.underlying34 Tryz.underlying5 Tryz.underlying9]
  rcases A with _|a
  ·simp [Conv.bytesToString]
   rfl
  ·have:=run_bytesToString (P:=Tryz.prog) w a 0 cap [] (by simpa using run_loadCells_list (P:=Tryz.prog) w a [] (fun j v hj=>by simp at hj))
   rw [this]
   rfl
 ·obtain⟨b,off,rfl,_,hc⟩:=h.hat h0
  have:=run_convert_bytes_arg (P:=Tryz.prog) w 34 5 Tryz.underlying34 Tryz.underlying5 b off len cap (l.map fun x=> (x.toNat:Int)) (by simpa using h.hlen.symm) (fun i hi=>by
   rw [hc i hi]
   have hi2:i<l.length:=by have:=h.hlen;omega
   simp [byt,List.getD,List.getElem?_map,List.getElem?_eq_getElem hi2]) 9 Tryz.underlying9
  rw [this,strOf_bytes]
theorem RdB.part {w:World} {b off len cap:Nat} {l:List UInt8} (h:RdB w (some ⟨b,off,none⟩) len cap l) (p n:Nat) (hp:p+n≤len) (h1:0<n):RdB w (some ⟨b,off+p,none⟩) n (cap - p) ((l.drop p).take n):=by
 have h2:=h.hlen
 have h3:=h.hle
 have h4:=h.hmax
 refine⟨by simp;omega,by omega,by omega,fun _=> ?_⟩
 obtain⟨b',off',e,hlt,hc⟩:=h.hat (by omega)
 injection e with e
 injection e with e1 e2 e3
 subst e1
 subst e2
 refine⟨b,off+p,rfl,hlt,fun i hi=> ?_⟩
 rw [byt_take _ _ _ hi,Nat.add_assoc,hc (p+i) (by omega)]
 congr 2
 unfold byt
 rw [List.getD_eq_getElem?_getD,List.getD_eq_getElem?_getD,List.getElem?_drop]
theorem RdB.addr {w:World} {A:Option Addr} {len cap:Nat} {l:List UInt8} (h:RdB w A len cap l) (h0:0<len): ∃b off,A=some ⟨b,off,none⟩∧b<w.heap.size:=by
 obtain⟨b,off,e,hlt,_⟩:=h.hat h0
 exact⟨b,off,e,hlt⟩
theorem wpl_own {P:Program} {w:World} {ops:Array Oper} {rest:List Oper} {o:Oper} {a:Act} {Q:Exit→Act→World→Prop} (hgd:o.guard=none) (s x:Operand) (t:TypeId)
  (ho:o.op= .call { callee:= .builtin .append,args:= #[s,x],argTypes:= #[t,t] }) {e:TypeId} {z:Value} {size bytes:Nat}
  (ht:P.underlying t=some (.slice e)) (hi:(P.info? e).map (fun i=> (i.zero,i.size,i.bytes))=some (some z,size,bytes)) (hzs:z.cells.size=size) (hsz:0<size)
  (base:Nat) {v:Value} {n:Nat} {xs:List Value} (hs:a.eval s=v) (hown:w.ownsRow base e size v n xs)
  {A:Option Addr} {m c:Nat} {news:List Value} (hx:a.eval x= .slice A m c) (hl:news.length=m*size) (hnews:0<m→ ∃ad,A=some ad∧ ∀j u,news[j]?=some u→w.cell? (ad.add j)=some u) (h1: ∀u∈news,u.oneCell'=true)
  (h63:n+m≤maxLen) (hbytes:(n+m)*bytes≤140737488355328) (hbase:base≤w.heap.size)
  (h: ∀v' w',w'.ownsRow base e size v' (n+m) (xs++news)→w.grownBy w' v.ownBlock→Below base w w'→wpList P ops Q rest (a.put o.dst v') w'):wpList P ops Q (o::rest) a w:=by
 rcases Nat.eq_zero_or_pos (n+m) with h0|hpos
 ·obtain⟨rfl,rfl⟩:n=0∧m=0:=by omega
  obtain⟨i,hi,hz,hsize,hby⟩:=info_parts hi
  have hn:news= []:=List.eq_nil_of_length_eq_zero (by simpa using hl)
  subst hn
  have hrun:(Builtin.append_ #[t,t] o.type #[v, .slice A 0 c]).run P w= .ok v w:=by
   rcases A with _|ad
   ·exact run_append_nothing w base t o.type e i size ht hi v 0 xs hown c
   ·have hl0:(loadCells ad 0).run P w= .ok #[] w:=by simpa using run_loadCells_list (P:=P) w ad [] (fun j v hj=>by simp at hj)
    rcases hown.2 with⟨rfl,_⟩ | ⟨g,cap,cur,rfl,_,_,hnc,_⟩
    ·simp [Builtin.append_,run_underlying ht,sizeOf,typeInfo,hi,Builtin.lenOf,Builtin.firstCells,hl0,storeCells]
    ·simp [Builtin.append_,run_underlying ht,sizeOf,typeInfo,hi,Builtin.lenOf,Builtin.firstCells,hnc,hl0,storeCells]
  refine wpList_plain hgd fun K hK=> ?_
  unfold Oper.wp execOp
  simp only [ho,resolve,invoke,builtin,Sem.run_bind,Sem.run_pure,Result.andThen_ok,List.map_toArray,List.map_cons,List.map_nil,hs,hx,hrun]
  exact hK _ _ (h v w (by simpa using hown) (World.grownBy.refl w _) (Below.refl _ _))
 ·exact wpl_lies hgd s x t ho ht hi hzs hsz base hs hown hx hl hnews h1 hpos h63 hbytes hbase fun g cap w' h2 h3 h4 _ _=>h _ w' h2 h3 h4
theorem wp_region_tail {P:Program} {id:Nat} {Q:Exit→Act→World→Prop} {a:Act} {w:World} {l:List Oper} (n:Nat) (hm:P.follows .mixedOrders=true) (hB:Region.lexTailB .any l.toArray n=true)
  (h:wpStill P l.toArray (w.drewN 1) (fun a'=>wpList P l.toArray Q (l.drop n) a' (w.drewN 1)) (l.take n) a):(Code.region id l.toArray true).wp P Q a w:=wp_region_still_tail n hm hB h
theorem still_of_quiet {P:Program} {ops:Array Oper} {w:World} {Q:Act→Prop}: ∀(l:List Oper) (a:Act),wpQuiet P ops (fun x=>x=w) Q l a→wpStill P ops w Q l a
 | [],_,h=>h
 |o::rest,a,h=>by
  unfold wpQuiet at h
  unfold wpStill
  split at h
  ·rename_i hw
   rw [if_pos hw]
   obtain⟨v,h1,h2⟩:=h
   have h3:=h1 w rfl
   unfold Oper.quietAt at h3
   unfold Oper.still
   generalize (execOp a.eval o).run P w=r at h3⊢
   unfold Oper.quietUpon at h3
   unfold Oper.stillUpon
   split at h3
   ·obtain⟨rfl,rfl⟩:=h3
    exact⟨rfl,still_of_quiet rest _ h2⟩
   ·obtain⟨rfl,rfl⟩:=h3
    exact⟨rfl,still_of_quiet rest _ h2⟩
   ·exact⟨h3.1,v,h3.2,still_of_quiet rest _ h2⟩
   ·exact h3.elim
  ·rename_i hw
   rw [if_neg hw]
   exact still_of_quiet rest _ h
theorem wp_region_head {P:Program} {id:Nat} {Q:Exit→Act→World→Prop} {a:Act} {w:World} {l:List Oper} (n:Nat) (hm:P.follows .mixedOrders=true) (hB:Region.lexTailB .any l.toArray n=true)
  (h:wpQuiet P l.toArray (fun x=>x=w.drewN 1) (fun a'=>wpList P l.toArray Q (l.drop n) a' (w.drewN 1)) (l.take n) a):(Code.region id l.toArray true).wp P Q a w:=wp_region_tail n hm hB (still_of_quiet _ _ h)
section Floating
variable {P:Program} {Q:Exit→Act→World→Prop}
def edgesOf (S:List Nat):Array Edge:=(S.map fun i=> ({ on:=i,ground:= .data }:Edge)).toArray
def plus (S:List Nat) (o:Oper):Oper:={ o with after:=o.after++edgesOf S }
def addE (l:List Oper) (n:Nat) (S:List Nat):List Oper:=l.modify n (plus S)
theorem addE_get (l:List Oper) (n:Nat) (S:List Nat) (j:Nat):(addE l n S).toArray[j]?=(l.toArray[j]?).map (fun o=>if n=j then plus S o else o):=by
 unfold addE
 simp only [List.getElem?_toArray,List.getElem?_modify]
 cases l[j]?<;>rfl
theorem yielded_addE (l:List Oper) (n:Nat) (S:List Nat) (t:Array Value):yielded (addE l n S).toArray t=yielded l.toArray t:=by
 funext j
 unfold yielded
 rw [addE_get]
 cases l.toArray[j]? with
 |none=>rfl
 |some o=>by_cases h:n=j<;>simp [h,plus]
theorem plus_wp (S:List Nat) (o:Oper) (a:Act) (w:World) (K:Act→World→Prop):(plus S o).wp P a w K Q=o.wp P a w K Q:=by cases o;rfl
theorem plus_asks (S:List Nat) (o:Oper) (a:Act) (w:World):(plus S o).asks P a w=o.asks P a w:=by cases o;rfl
theorem plus_still (S:List Nat) (o:Oper) (a:Act) (w:World) (K:Act→Prop):(plus S o).still P a w K=o.still P a w K:=by cases o;rfl
theorem plus_wanted (S:List Nat) (o:Oper) (y:Nat→Option Bool):Region.wanted (plus S o) y=Region.wanted o y:=by cases o;rfl
theorem ready_addE {l:List Oper} {n:Nat} {S:List Nat} {listed:Array Bool} (h: ∀i∈S,listed.getD i false=true):
  Region.ready .any (addE l n S).toArray listed=Region.ready .any l.toArray listed:=by
 unfold Region.ready
 have hsz:(addE l n S).toArray.size=l.toArray.size:=by simp [addE]
 rw [hsz]
 apply List.filter_congr
 intro i _
 rw [addE_get]
 congr 1
 cases l.toArray[i]? with
 |none=>rfl
 |some o=>
  by_cases hn:n=i
  ·have e:(edgesOf S).all (fun e=> !Region.binds .any e||listed.getD e.on false)=true:=by
    rw [Array.all_eq_true_iff_forall_mem]
    intro e he
    simp only [edgesOf,List.mem_toArray,List.mem_map] at he
    obtain⟨i,hi,rfl⟩:=he
    rw [h i hi]
    simp
   simp only [Option.map_some,Option.getD_some,hn,if_true,plus,Array.all_append,e,Bool.and_true]
  ·simp [hn]
theorem wpOp_addE {l:List Oper} {n:Nat} {S:List Nat} {i:Nat} {K:Act→World→Prop} {a:Act} {w:World} (h:wpOp P (addE l n S).toArray Q i K a w):wpOp P l.toArray Q i K a w:=by
 unfold wpOp at h⊢
 rw [addE_get,yielded_addE] at h
 cases ho:l.toArray[i]? with
 |none=>rw [ho] at h;exact h
 |some o=>
  rw [ho] at h
  by_cases hn:n=i
  ·simp only [Option.map_some,hn,if_true,plus_wp,plus_asks,plus_wanted] at h
   exact h
  ·simp only [Option.map_some,hn,if_false] at h
   exact h
theorem getD_mono {listed:Array Bool} {S:List Nat} (h: ∀i∈S,listed.getD i false=true) (j:Nat): ∀i∈S,(listed.setIfInBounds j true).getD i false=true:=fun i hi=>getD_set_true (h i hi)
theorem any_addE {l:List Oper} {n:Nat} {S:List Nat}: ∀(f:Nat) (listed:Array Bool) (a:Act) (w:World),(∀i∈S,listed.getD i false=true)→
  wpAny P .any (addE l n S).toArray Q f listed a w→wpAny P .any l.toArray Q f listed a w
 |0,listed,a,w,hS,h=> ⟨by rw [←ready_addE hS];exact h.1,h.2⟩
 |f+1,listed,a,w,hS,h=>by
  refine⟨fun h0=>h.1 (by rw [ready_addE hS];exact h0),fun i hi=> ?_⟩
  have h1:=h.2 i (by rw [ready_addE hS];exact hi)
  exact wpOp_mono (fun a' w' h2=>any_addE f _ a' w' (getD_mono hS i) h2) (wpOp_addE h1)
theorem list_addE {ops:Array Oper} {l:List Oper} {n:Nat} {S:List Nat} (hops:ops=(addE l n S).toArray): ∀(r:List Oper) (a:Act) (w:World),wpList P l.toArray Q r a w→wpList P ops Q r a w
 | [],_,_,h=>h
 |o::r,a,w,h=>by
  unfold wpList at h⊢
  rw [hops,yielded_addE]
  split
  ·rename_i hw
   rw [if_pos hw] at h
   exact h.imp (Oper.wp_mono fun a' w' h2=>by rw [←hops];exact list_addE hops r a' w' h2) id
  ·rename_i hw
   rw [if_neg hw] at h
   rw [←hops]
   exact list_addE hops r _ w h
theorem list_head {ops:Array Oper} {S:List Nat} {o:Oper} {r:List Oper} {a:Act} {w:World} (h:wpList P ops Q (o::r) a w):wpList P ops Q (plus S o::r) a w:=by
 unfold wpList at h⊢
 rw [plus_wanted,plus_wp,plus_asks]
 exact h
theorem still_addE {w:World} {Q':Act→Prop} {ops:Array Oper} {l:List Oper} {n:Nat} {S:List Nat} (hops:ops=(addE l n S).toArray): ∀(r:List Oper) (a:Act),wpStill P l.toArray w Q' r a→wpStill P ops w Q' r a
 | [],_,h=>h
 |o::r,a,h=>by
  unfold wpStill at h⊢
  rw [hops,yielded_addE]
  split
  ·rename_i hw
   rw [if_pos hw] at h
   exact Oper.still_mono (fun a' h2=>by rw [←hops];exact still_addE hops r a' h2) h
  ·rename_i hw
   rw [if_neg hw] at h
   rw [←hops]
   exact still_addE hops r _ h
theorem still_goal {w:World} {Q1 Q2:Act→Prop} {ops:Array Oper} (hQ: ∀a,Q1 a→Q2 a): ∀(r:List Oper) (a:Act),wpStill P ops w Q1 r a→wpStill P ops w Q2 r a
 | [],a,h=>hQ a h
 |o::r,a,h=>by
  unfold wpStill at h⊢
  split
  ·rename_i hw
   rw [if_pos hw] at h
   exact Oper.still_mono (fun a' h2=>still_goal hQ r a' h2) h
  ·rename_i hw
   rw [if_neg hw] at h
   exact still_goal hQ r _ h
def movesFrom (o:Oper):Option Operand:=match o.op with| .move x=>if o.guard.isNone then some x else none|_=>none
theorem movesFrom_op {o:Oper} {x:Operand} (h:movesFrom o=some x):o.op= .move x∧o.guard=none:=by
 unfold movesFrom at h
 split at h
 ·rename_i y hy
  split at h
  ·rename_i hg
   injection h with h
   subst h
   exact⟨hy,by simpa using hg⟩
  ·cases h
 ·cases h
def floatsB (l:List Oper) (n:Nat):Array Bool→List Nat→Bool
 |_, []=>true
 |listed,i::S=> (match l.toArray[i]? with|some o=> (movesFrom o).isSome|none=>false)&&decide (i<n)&&Region.free .any l.toArray listed i&&(Region.ready .any l.toArray listed).contains i&&floatsB l n (listed.setIfInBounds i true) S
theorem float_moves {l:List Oper} {n:Nat} {T:List Nat} {w:World} {L:Array Bool→Act→Prop} {g:Nat} (hsel:Region.noSelect l.toArray=true) (hQ: ∀c a w d v,Q (.panic c) (a.put d v) w→Q (.panic c) a w)
  (hL: ∀listed a,L listed a→wpAny P .any (addE l n T).toArray Q g listed a w):
  ∀(S:List Nat) (f:Nat) (listed:Array Bool) (a:Act),f+0=f→(∀i∈T,listed.getD i false=true∨i∈S)→floatsB l n listed S=true→S.length≤f→
   wpAnyL P .any (addE l n T).toArray w n L f listed a→wpAny P .any l.toArray Q (f+g) listed a w
 | [],f,listed,a,_,hT,_,_,h=>any_addE _ _ _ _ (fun i hi=> (hT i hi).resolve_right (by simp)) (wpAny_of_head hL f listed a h)
 |i::S,0,_,_,_,_,_,hf,_=>by simp at hf
 |i::S,f+1,listed,a,_,hT,hB,hf,h=>by
  simp only [floatsB,Bool.and_eq_true,decide_eq_true_eq] at hB
  obtain⟨⟨⟨⟨hm,hin⟩,hfree⟩,hr⟩,hB'⟩:=hB
  cases ho:l.toArray[i]? with
  |none=>rw [ho] at hm;cases hm
  |some o=>
   rw [ho] at hm
   obtain⟨x,hx⟩:=Option.isSome_iff_exists.1 hm
   obtain⟨hop,hg⟩:=movesFrom_op hx
   have ho':(addE l n T).toArray[i]?=some o:=by
    rw [addE_get,ho]
    have: ¬n=i:=by omega
    simp [this]
   have hw: ∀y,Region.wanted o y=true:=fun y=>by simp [Region.wanted,hg]
   have hr':i∈Region.ready .any (addE l n T).toArray listed:=by
    have:=mem_ready.1 (show i∈Region.ready .any l.toArray listed by simpa using hr)
    obtain⟨h0,o2,ho2,hall⟩:=this
    rw [ho] at ho2
    injection ho2 with ho2
    subst ho2
    exact mem_ready.2 ⟨h0,o,ho',hall⟩
   have h1:=(h.2 i hr').2
   unfold stOp at h1
   simp only [ho',hw,if_true] at h1
   unfold Oper.still at h1
   rw [BigFrame.run_move x hop w] at h1
   have h2:=h1.2
   rw [show f+1+g=(f+g)+1 by omega]
   refine wpAny_take ho hsel hfree hr (fun c a w=>hQ c a w _ _) (.inl ⟨hw _,fun w=>BigFrame.run_move x hop w⟩) ?_
   refine float_moves hsel hQ hL S f _ _ rfl (fun j hj=> ?_) hB' (by simp at hf;omega) h2
   have hlt:i<listed.size:=by
    have h0:=(mem_ready.1 hr').1
    rcases Nat.lt_or_ge i listed.size with h'|h'
    ·exact h'
    ·simp [Array.getElem?_eq_none h'] at h0
   rcases hT j hj with h3|h3
   ·exact .inl (getD_set_true h3)
   ·rcases List.mem_cons.1 h3 with rfl|h3
    ·left
     simp [hlt]
    ·exact .inr h3
def floatTailB (l:List Oper) (n:Nat) (S:List Nat):Bool:=
 Region.lexTailB .any (addE l n S).toArray n&&floatsB l n (Array.replicate l.toArray.size false) S&&decide (S.length≤n)&&Region.noSelect l.toArray
theorem wp_region_float {id:Nat} {a:Act} {w:World} {l:List Oper} (n:Nat) (S:List Nat) (hm:P.follows .mixedOrders=true) (hB:floatTailB l n S=true) (hQ: ∀c a w d v,Q (.panic c) (a.put d v) w→Q (.panic c) a w)
  (h:wpQuiet P l.toArray (fun x=>x=w.drewN 1) (fun a'=>wpList P l.toArray Q (l.drop n) a' (w.drewN 1)) (l.take n) a):(Code.region id l.toArray true).wp P Q a w:=by
 simp only [floatTailB,Region.lexTailB,Bool.and_eq_true,decide_eq_true_eq] at hB
 obtain⟨⟨⟨⟨⟨⟨⟨hsel',hn⟩,hs⟩,hc⟩,hlex⟩,hfl⟩,hSn⟩,hsel⟩:=hB
 obtain⟨ops,hops⟩: ∃ops,ops=(addE l n S).toArray:=⟨_,rfl⟩
 have hsz:ops.size=l.toArray.size:=by rw [hops];simp [addE]
 have hn':n<l.length:=by rw [←hops,hsz] at hn;simpa using hn
 have htl:(l.take n).length=n:=by simp;omega
 have hget: ∀j,n≠j→ops[j]?=l[j]?:=fun j hj=>by
  rw [hops,addE_get,List.getElem?_toArray]
  cases l[j]?<;>simp [hj]
 have inv0:HeadInv .any ops n (Array.replicate l.toArray.size false):=
  ⟨by simp [hsz],fun j oj _ hl=> (by rw [getD_replicate_false] at hl;cases hl),fun t _ ht=>getD_in (by rw [Array.size_replicate, ←hsz];exact ht) (getD_replicate_false _ _)⟩
 rw [←hops] at hs hc hlex hsel' hn
 rw [hsz] at hlex
 have h1:=still_addE (n:=n) (S:=S) hops _ _ (still_of_quiet _ _ h)
 have H:=wpAnyL_lex (md:= .any) (g:=l.toArray.size - n) hsel' hs hc hn (l.take n) 0 _ a (fun j hj=>by
  have hj':j<n:=by rw [htl] at hj;exact hj
  rw [Nat.zero_add,hget j (by omega),List.getElem?_take_of_lt hj']) (by simpa using htl) inv0 (by rw [htl];exact hlex) h1
 refine wp_region_any hm ?_
 obtain⟨o,ho⟩: ∃o,l[n]?=some o:=⟨_,List.getElem?_eq_getElem hn'⟩
 have hdrop:l.drop n=o::l.drop (n+1):=by
  rw [List.drop_eq_getElem_cons hn']
  congr 1
  rw [List.getElem?_eq_getElem hn'] at ho
  injection ho
 have:=float_moves (P:=P) (Q:=Q) (l:=l) (n:=n) (T:=S) (w:=w.drewN 1) (L:=fun listed' a'=>Region.seqB .any ops (l.toArray.size - n) n listed'=true∧wpList P l.toArray Q (l.drop n) a' (w.drewN 1)) (g:=l.toArray.size - n) hsel hQ (fun listed a' hL=>by
  have hd:=list_head (S:=S) (list_addE (n:=n) (S:=S) hops _ _ _ (hdrop▸hL.2))
  have:=wpAny_of_seq (md:= .any) (Q':=Q) (plus S o::l.drop (n+1)) n listed a' (w.drewN 1) (fun j=>by
   rcases j with _|j
   ·rw [hops,addE_get,List.getElem?_toArray]
    simp only [Nat.add_zero]
    rw [ho]
    simp
   ·rw [hget _ (by omega)]
    simp [List.getElem?_drop,Nat.add_comm,Nat.add_left_comm,Nat.add_assoc]) (by
     rw [List.length_cons,List.length_drop,show l.length - (n+1)+1=l.toArray.size - n by simp;omega]
     exact hL.1) hd
  rw [List.length_cons,List.length_drop,show l.length - (n+1)+1=l.toArray.size - n by simp;omega] at this
  rw [←hops]
  exact this) S n _ a rfl (fun i hi=> .inr hi) hfl hSn (by rw [htl] at H;exact hops▸H)
 rw [show n+(l.toArray.size - n)=l.toArray.size by simp;omega] at this
 exact this
end Floating
end Go.Proofs.YtlcidkiplidamaaGreatDoor
