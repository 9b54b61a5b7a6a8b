/-
  What the laws rest on, part 0: walks of the program's functions and plain laws. Conditions: none but those that each theorem names.
-/
import Derived.Test.YtpbnjakeielipaaGreatDoorRows
import Derived.WalkKit
import Derived.WalkSpells
import Derived.WalkLawsBesides
import Derived.Lib.Hide
import Derived.Lib.OthersKept
import Derived.Maps.AppendAt
import Derived.Deep.AppendLies
import Derived.Maps.OwnSet
import Derived.Maps.OwnOps
import Derived.Laws.BytesArg
import Derived.StillTailTactics
import Derived.Deep.QuietTactic
import Derived.BigQuiet
import Derived.Deep.RegionLaw
import Derived.Laws.BitsAllLaws
set_option linter.unusedSimpArgs false
set_option linter.unusedVariables false
namespace Go.Proofs.YtpbnjakeielipaaGreatDoor
open Go Go.RowKit
noncomputable def runList (P:Program) (ops:Array Oper):List Oper→Act→World→Option (Act×World)
 | [],a,w=>some (a,w)
 |o::rest,a,w=>
  match Region.wanted o (yielded ops a.tmps) with
  |true=>
   match(execOp a.eval o).run P w with
   | .ok (.value v) w'=>runList P ops rest (a.put o.dst v) w'
   | .ok .skip w'=>runList P ops rest (a.put o.dst undef) w'
   |_=>none
  |false=>runList P ops rest (a.put o.dst undef) w
theorem cells_new (w:World) (l:List Value) (t:TypeId): ∀j u,l[j]?=some u→(w.alloc (.cells l.toArray t)).cell? ((⟨w.heap.size,0,none⟩:Addr).add j)=some u:=by
 intro j u hj
 have e:((⟨w.heap.size,0,none⟩:Addr).add j)=⟨w.heap.size,j,none⟩:=by
  unfold Addr.add
  split<;>simp_all
 rw [e]
 unfold World.cell?
 rw [heap_alloc_new]
 simpa using hj
theorem wpl_append {P:Program} {w:World} {ops:Array Oper} {rest:List Oper} {o:Oper} {a:Act} {Q:Exit→Act→World→Prop} (hgd:o.guard=none) (s x:Operand) (t:TypeId)
  (ho:o.op= .call { callee:= .builtin .append,args:= #[s,x],argTypes:= #[t,t] }) {e:TypeId} {z:Value} {size bytes:Nat}
  (ht:P.underlying t=some (.slice e)) (hi:(P.info? e).map (fun i=> (i.zero,i.size,i.bytes))=some (some z,size,bytes)) (hzs:z.cells.size=size) (hsz:0<size)
  (base:Nat) {v:Value} {n:Nat} {xs:List Value} (hs:a.eval s=v) (hown:w.ownsRow base e size v n xs)
  {ad:Addr} {m c:Nat} {news:List Value} (hx:a.eval x= .slice (some ad) m c) (hl:news.length=m*size) (hnews: ∀j u,news[j]?=some u→w.cell? (ad.add j)=some u) (h1: ∀u∈news,u.oneCell'=true)
  (h63:n+m≤maxLen) (hbytes:(n+m)*bytes≤140737488355328) (hbase:base≤w.heap.size)
  (h: ∀v' w',w'.ownsRow base e size v' (n+m) (xs++news)→w.grownBy w' v.ownBlock→Below base w w'→wpList P ops Q rest (a.put o.dst v') w'):wpList P ops Q (o::rest) a w:=by
 obtain⟨i,hi,hz,hsize,hby⟩:=info_parts hi
 refine wpList_append_own w hgd s x t ho base e i z size bytes ht hi hz hsize hby hzs hsz v n xs hs hown ad m c news hx hl hnews h1 h63 hbytes hbase fun v' w' h2 h3 _=>h v' w' h2 h3 ?_
 exact(Below.refl _ _).grown h3 hbase fun k hk=> (hown.lt k hk).1
theorem info_u8:(Tryz.prog.info? 5).map (fun i=> (i.zero,i.size,i.bytes))=some (some (.int .u8 0),1,1):=by kernel_rfl
theorem info_int:(Tryz.prog.info? 3).map (fun i=> (i.zero,i.size,i.bytes))=some (some (.int .i64 0),1,8):=by kernel_rfl
theorem info_string:(Tryz.prog.info? 9).map (fun i=> (i.zero,i.size,i.bytes))=some (some (.string ⟨#[]⟩),1,16):=by kernel_rfl
end Go.Proofs.YtpbnjakeielipaaGreatDoor
namespace Go.Proofs.YtpbnjakeielipaaGreatDoor
open Go Go.RowKit Lib
theorem iterAt_cell (w:World) (k:Nat) (s:ByteArray) (pos pos':Nat) (hk:w.heap[k]?=some (.stringIter s pos)) (a:Addr):(w.iterAt k s pos').cell? a=w.cell? a:=by
 by_cases h:a.block=k
 ·unfold World.cell?
  rw [h,iterAt_heap w k s pos pos' hk,hk]
 ·exact World.cell?_of_block (iterAt_other w k a.block s pos' h)
theorem iterAt_frozen (w:World) (k:Nat) (s:ByteArray) (pos pos':Nat) (hk:w.heap[k]?=some (.stringIter s pos)) (a:Addr):(w.iterAt k s pos').frozen? a=w.frozen? a:=by
 by_cases h:a.block=k
 ·unfold World.frozen?
  rw [h,iterAt_heap w k s pos pos' hk,hk]
 ·exact World.frozen?_of_block (iterAt_other w k a.block s pos' h)
theorem far (x n:Nat) (h:x<n):x<n∧x<n+1∧x<n+1+1∧x<n+1+1+1∧ ¬x=n∧ ¬x=n+1∧ ¬x=n+1+1∧ ¬x=n+1+1+1∧ ¬n=x∧ ¬n+1=x∧ ¬n+1+1=x∧ ¬n+1+1+1=x:=by omega
theorem wpl_next {P:Program} {W:World} {ops:Array Oper} {rest:List Oper} {o:Oper} {a:Act} {Q:Exit→Act→World→Prop} {x:Operand} (hop:o.op= .next x true) (hgd:o.guard=none)
  {k:Nat} {s:ByteArray} {pos:Nat} (hx:a.eval x= .pointer (some ⟨k,0,none⟩)) (hk:W.heap[k]?=some (.stringIter s pos)) (c:Nat) (hc:s.data.toList[pos]?=some (UInt8.ofNat c)) (h1:c<128)
  (h: ∀W':World,W'.heap[k]?=some (.stringIter s (pos+1))→(∀b,W'.cell? b=W.cell? b)→(∀b,W'.frozen? b=W.frozen? b)→W'.heap.size=W.heap.size→(∀j,j≠k→W'.heap[j]?=W.heap[j]?)→Hid (Below k W W')→
   wpList P ops Q rest (a.put o.dst (.tuple #[.bool true, .int .i64 pos, .int .i32 c])) W'):wpList P ops Q (o::rest) a W:=by
 have hlt:pos<s.size:=by
  have:=(List.getElem?_eq_some_iff.1 hc).1
  simpa using this
 have hv:(s[pos]'hlt).toNat=c:=by
  have:=(List.getElem?_eq_some_iff.1 hc).2
  have e:s[pos]'hlt=s.data.toList[pos]'(by simpa using hlt):=rfl
  rw [e,this]
  simp [UInt8.toNat_ofNat]
  omega
 refine wpList_plain hgd fun K hK=> ?_
 have hr:=run_next_ascii_at (P:=P) W k s pos o.type hk hlt (by omega)
 unfold Oper.wp execOp
 simp only [hop,hx,hr,Sem.run_bind,Result.andThen_ok,Sem.run_pure]
 rw [hv]
 exact hK _ _ (h (W.iterAt k s (pos+1)) (iterAt_heap W k s pos _ hk) (iterAt_cell W k s pos _ hk) (iterAt_frozen W k s pos _ hk) (iterAt_size W k s _) (fun j hj=>iterAt_other W k j s _ hj) (below_iterAt (Below.refl _ _) (Nat.le_refl _) _ _))
theorem wpl_next_end {P:Program} {W:World} {ops:Array Oper} {rest:List Oper} {o:Oper} {a:Act} {Q:Exit→Act→World→Prop} {x:Operand} (hop:o.op= .next x true) (hgd:o.guard=none)
  {k:Nat} {s:ByteArray} {pos:Nat} (hx:a.eval x= .pointer (some ⟨k,0,none⟩)) (hk:W.heap[k]?=some (.stringIter s pos)) (hc:s.data.toList.length≤pos)
  (h:wpList P ops Q rest (a.put o.dst (.tuple #[.bool false])) W):wpList P ops Q (o::rest) a W:=by
 have hlt: ¬pos<s.size:=by
  have:s.data.toList.length=s.size:=by simp
  omega
 refine wpList_plain hgd fun K hK=> ?_
 have hr:=run_next_end_at (P:=P) W k s pos o.type hk hlt
 unfold Oper.wp execOp
 simp only [hop,hx,hr,Sem.run_bind,Result.andThen_ok,Sem.run_pure]
 exact hK _ _ h
theorem run_append_nothing {P:Program} (w:World) (base:Nat) (t ty e:TypeId) (i:TypeInfo) (size:Nat) (ht:P.underlying t=some (.slice e)) (hi:P.info? e=some i)
  (v:Value) (n:Nat) (xs:List Value) (hown:w.ownsRow base e size v n xs) (c:Nat):(Builtin.append_ #[t,t] ty #[v, .slice none 0 c]).run P w= .ok v w:=by
 rcases hown.2 with⟨rfl,rfl⟩ | ⟨g,cap,cur,rfl,_,_,hnc,_⟩
 ·simp [Builtin.append_,run_underlying ht,sizeOf,typeInfo,hi,Builtin.lenOf,Builtin.firstCells]
 ·simp [Builtin.append_,run_underlying ht,sizeOf,typeInfo,hi,Builtin.lenOf,Builtin.firstCells,hnc,storeCells]
theorem wpl_lies {P:Program} {w:World} {ops:Array Oper} {rest:List Oper} {o:Oper} {a:Act} {Q:Exit→Act→World→Prop} (hgd:o.guard=none) (s x:Operand) (t:TypeId)
  (ho:o.op= .call { callee:= .builtin .append,args:= #[s,x],argTypes:= #[t,t] }) {e:TypeId} {z:Value} {size bytes:Nat}
  (ht:P.underlying t=some (.slice e)) (hi:(P.info? e).map (fun i=> (i.zero,i.size,i.bytes))=some (some z,size,bytes)) (hzs:z.cells.size=size) (hsz:0<size)
  (base:Nat) {v:Value} {n:Nat} {xs:List Value} (hs:a.eval s=v) (hown:w.ownsRow base e size v n xs)
  {A:Option Addr} {m c:Nat} {news:List Value} (hx:a.eval x= .slice A m c) (hl:news.length=m*size) (hnews:0<m→ ∃ad,A=some ad∧ ∀j u,news[j]?=some u→w.cell? (ad.add j)=some u) (h1: ∀u∈news,u.oneCell'=true)
  (hpos:0<n+m) (h63:n+m≤maxLen) (hbytes:(n+m)*bytes≤140737488355328) (hbase:base≤w.heap.size)
  (h: ∀g cap w',w'.ownsRow base e size (.slice (some ⟨g,0,none⟩) (n+m) cap) (n+m) (xs++news)→w.grownBy w' v.ownBlock→Below base w w'→(v.ownBlock=some g∨g=w.heap.size)→g<w'.heap.size→
   wpList P ops Q rest (a.put o.dst (.slice (some ⟨g,0,none⟩) (n+m) cap)) w'):wpList P ops Q (o::rest) a w:=by
 obtain⟨i,hi,hz,hsize,hby⟩:=info_parts hi
 have hrun: ∃v' w',(Builtin.append_ #[t,t] o.type #[v, .slice A m c]).run P w= .ok v' w'∧w'.ownsRow base e size v' (n+m) (xs++news)∧w.grownBy w' v.ownBlock∧(v'.ownBlock=v.ownBlock∨v'.ownBlock=some w.heap.size):=by
  rcases A with _|ad
  ·have hm:m=0:=by
    rcases Nat.eq_zero_or_pos m with h0|h0
    ·exact h0
    ·obtain⟨ad,h,_⟩:=hnews h0
     cases h
   subst hm
   have hn:news= []:=List.eq_nil_of_length_eq_zero (by simpa using hl)
   subst hn
   exact⟨v,w,run_append_nothing w base t o.type e i size ht hi v n xs hown c,by simpa using hown,World.grownBy.refl w _, .inl rfl⟩
  ·have hcells: ∀j u,news[j]?=some u→w.cell? (ad.add j)=some u:=by
    intro j u hu
    rcases Nat.eq_zero_or_pos m with h0|h0
    ·subst h0
     have hn:news= []:=List.eq_nil_of_length_eq_zero (by simpa using hl)
     subst hn
     simp at hu
    ·obtain⟨ad',h,hc⟩:=hnews h0
     injection h with h
     subst h
     exact hc j u hu
   obtain⟨v',w',hrun,h2,h3,_,h5⟩:=run_append_own_at (P:=P) w base t o.type e i z size bytes ht hi hz hsize hby hzs hsz v n xs hown ad m c news hl hcells h1 h63 hbytes hbase
   exact⟨v',w',hrun,h2,h3,h5⟩
 obtain⟨v',w',hr,h2,h3,h5⟩:=hrun
 obtain⟨g,cap,rfl,hg,hlt⟩:=h2.form hpos
 refine wpList_plain hgd fun K hK=> ?_
 unfold Oper.wp execOp
 simp only [ho,resolve,invoke,builtin,Sem.run_bind,Sem.run_pure,Result.andThen_ok,List.map_toArray,List.map_cons,List.map_nil,hs,hx,hr]
 refine hK _ _ (h g cap w' h2 h3 ((Below.refl _ _).grown h3 hbase fun k hk=> (hown.lt k hk).1) ?_ hlt)
 rcases h5 with h5|h5
 ·exact .inl (by rw [←h5];rfl)
 ·exact .inr (by simpa [Value.ownBlock] using h5)
def byt (l:List UInt8) (k:Nat):Nat:=(l.getD k 0).toNat
theorem byt_lt (l:List UInt8) (k:Nat):byt l k<256:=(l.getD k 0).toNat_lt
def bV (b:UInt8):Value:= .int .u8 b.toNat
theorem bV_get (l:List UInt8) (i:Nat) (hi:i<l.length):(l.map bV)[i]?=some (.int .u8 (byt l i)):=by
 rw [List.getElem?_map,List.getElem?_eq_getElem hi]
 simp [byt,List.getD,List.getElem?_eq_getElem hi,bV]
theorem bV_one (l:List UInt8): ∀u∈l.map bV,u.oneCell'=true:=by
 intro u hu
 obtain⟨_,_,rfl⟩:=List.mem_map.1 hu
 rfl
structure RdB (w:World) (A:Option Addr) (len cap:Nat) (l:List UInt8):Prop where
 hlen:len=l.length
 hle:len≤cap
 hmax:len≤9223372036854775807
 hat:0<len→ ∃b off,A=some ⟨b,off,none⟩∧b<w.heap.size∧ ∀i,i<len→w.cell? ⟨b,off+i,none⟩=some (.int .u8 (byt l i))
theorem RdB.below {w w':World} {A:Option Addr} {len cap:Nat} {l:List UInt8} (h:RdB w A len cap l) (hb:Below w.heap.size w w'):RdB w' A len cap l:=
 ⟨h.hlen,h.hle,h.hmax,fun h0=>by
  obtain⟨b,off,e,hlt,hc⟩:=h.hat h0
  exact⟨b,off,e,Nat.lt_of_lt_of_le hlt hb.size,fun i hi=> (hb.cell (p:=⟨b,off+i,none⟩) hlt).trans (hc i hi)⟩⟩
theorem RdB.alloc {w:World} {A:Option Addr} {len cap:Nat} {l:List UInt8} (h:RdB w A len cap l) (o:Obj):RdB (w.alloc o) A len cap l:=h.below ((Below.refl _ _).alloc (Nat.le_refl _) _)
theorem RdB.drewN {w:World} {A:Option Addr} {len cap:Nat} {l:List UInt8} (h:RdB w A len cap l) (n:Nat):RdB (w.drewN n) A len cap l:=h.below (below_drewN (Below.refl _ _) n)
theorem add_cell (b off j:Nat):((⟨b,off,none⟩:Addr).add j)=⟨b,off+j,none⟩:=by
 unfold Addr.add
 split<;>simp_all
theorem RdB.src {w:World} {A:Option Addr} {len cap:Nat} {l:List UInt8} (h:RdB w A len cap l):0<len→ ∃ad,A=some ad∧ ∀j u,(l.map bV)[j]?=some u→w.cell? (ad.add j)=some u:=fun h0=>by
 obtain⟨b,off,e,hlt,hc⟩:=h.hat h0
 refine⟨_,e,fun j u hu=> ?_⟩
 have hj:j<l.length:=by
  have:=(List.getElem?_eq_some_iff.1 hu).1
  simpa using this
 rw [bV_get l j hj] at hu
 injection hu with hu
 subst hu
 rw [add_cell]
 exact hc j (by rw [h.hlen];exact hj)
theorem rdB_own {w:World} {base:Nat} {e:TypeId} {g n cap:Nat} {l:List UInt8} (h:w.ownsRow base e 1 (.slice (some ⟨g,0,none⟩) n cap) n (l.map bV)):RdB w (some ⟨g,0,none⟩) n cap l:=by
 have hn:n=l.length:=by
  have:=h.1
  simpa using this.symm
 have hc:n≤cap∧cap≤maxLen:=by
  rcases h.2 with⟨hv,_⟩ | ⟨g',cap',cur,hv,_,_,h1,h2,_⟩
  ·cases hv
  ·injection hv with _ _ h3
   subst h3
   exact⟨h1,h2⟩
 refine⟨hn,hc.1,by have:=hc.2;unfold maxLen at this;omega,fun h0=> ⟨g,0,rfl,(h.lt g rfl).2,fun i hi=> ?_⟩⟩
 rw [Nat.zero_add,h.cellAt i (by omega)]
 exact bV_get l i (by omega)
theorem own_eq {w:World} {base:Nat} {e:TypeId} {size n m:Nat} {v:Value} {xs ys:List Value} (h:w.ownsRow base e size v n xs) (hn:n=m) (hx:xs=ys):w.ownsRow base e size v m ys:=by
 subst hn
 subst hx
 exact h
theorem bV_ofNat (c:Nat) (h:c<256):Value.int .u8 (c:Int)=bV (UInt8.ofNat c):=by
 unfold bV
 rw [UInt8.toNat_ofNat',Nat.mod_eq_of_lt (by omega)]
theorem byt_take (l:List UInt8) (n i:Nat) (h:i<n):byt (l.take n) i=byt l i:=by
 unfold byt
 rw [List.getD_eq_getElem?_getD,List.getD_eq_getElem?_getD,List.getElem?_take,if_pos h]
theorem RdB.take {w:World} {A:Option Addr} {len cap:Nat} {l:List UInt8} (h:RdB w A len cap l) (n:Nat) (hn:n≤len):RdB w A n cap (l.take n):=
 ⟨by have:=h.hlen;rw [List.length_take];omega,by have:=h.hle;omega,by have:=h.hmax;omega,fun h0=>by
  obtain⟨b,off,e,hlt,hc⟩:=h.hat (by omega)
  exact⟨b,off,e,hlt,fun i hi=>by rw [byt_take l n i hi];exact hc i (by omega)⟩⟩
def lenOf:Value→Nat
 | .slice _ n _=>n
 |_=>0
theorem own_heap {w w':World} {base:Nat} {e:TypeId} {size n:Nat} {v:Value} {xs:List Value} (h:w.ownsRow base e size v n xs) (hk: ∀g,v.ownBlock=some g→w'.heap[g]?=w.heap[g]?):w'.ownsRow base e size v n xs:=by
 rcases h.2 with⟨rfl,h0⟩ | ⟨g,cap,cur,rfl,hb,hg,r⟩
 ·exact⟨h.1, .inl ⟨rfl,h0⟩⟩
 ·exact⟨h.1, .inr ⟨g,cap,cur,rfl,hb,(hk g rfl).trans hg,r⟩⟩
theorem grown_facts {w w':World} {v:Value} {g:Nat} (h:w.grownBy w' v.ownBlock) (hv:v.ownBlock=some g):
  (∀b o,b<w.heap.size→b≠g→w'.cell? ⟨b,o,none⟩=w.cell? ⟨b,o,none⟩)∧(∀b o,b<w.heap.size→b≠g→w'.frozen? ⟨b,o,none⟩=w.frozen? ⟨b,o,none⟩)∧
   (∀b,b<w.heap.size→b≠g→w'.heap[b]?=w.heap[b]?)∧w.heap.size≤w'.heap.size:=by
 have hb: ∀b,b<w.heap.size→b≠g→w'.heap[b]?=w.heap[b]?:=fun b hlt hne=>h.block b hlt (by rw [hv];intro e;injection e with e;exact hne e)
 exact⟨fun b o hlt hne=>World.cell?_of_block (hb b hlt hne),fun b o hlt hne=>World.frozen?_of_block (hb b hlt hne),hb,h.size⟩
theorem cells_new_at (w:World) (l:List Value) (t:TypeId) (k:Nat) (hk:k=w.heap.size): ∀j u,l[j]?=some u→(w.alloc (.cells l.toArray t)).cell? ((⟨k,0,none⟩:Addr).add j)=some u:=by
 subst hk
 exact cells_new w l t
def Stop (p:Prop):Prop:=p
theorem stop_here {p:Prop} (h:Stop p):p:=h
theorem go_on {p:Prop} (h:p):Stop p:=h
theorem own_set {w:World} {base:Nat} {e:TypeId} {size n g cap:Nat} {xs:List Value} (h:w.ownsRow base e size (.slice (some ⟨g,0,none⟩) n cap) n xs) {p:Addr} (hp:g≠p.block) (u:Value):
  (w.setCell p u).ownsRow base e size (.slice (some ⟨g,0,none⟩) n cap) n xs:=
 own_heap h fun k hk=>by
  simp only [Value.ownBlock,Option.some.injEq] at hk
  subst hk
  exact Below.heap_setCell w p u _ hp
end Go.Proofs.YtpbnjakeielipaaGreatDoor
namespace Go.Proofs.YtpbnjakeielipaaGreatDoor
open Go Go.RowKit Lib Go.Maps
def tokR (v:Value):Option (DataW Value×List MemPlace):=some (.held v, [])
def MapS (w:World) (P:Program) (k:TypeId) (b n:Nat) (f:List UInt8→Option Value) (sz:Nat):Prop:=
 ∃D:DataW Value,w.ownsMap P k tokR b n D∧Maps.size D=sz∧(∀s z,D.atKey (.string s) z=((f s).map DataW.held).getD z)∧ ∀s,Maps.has D (.string s)=(f s).isSome
def putF (f:List UInt8→Option Value) (k:List UInt8) (v:Value):List UInt8→Option Value:=fun s=>if s=k then some v else f s
def delF (f:List UInt8→Option Value) (k:List UInt8):List UInt8→Option Value:=fun s=>if s=k then none else f s
theorem mapS_made (w:World) (P:Program) (k:TypeId):MapS (w.alloc (.map #[] 0)) P k w.heap.size 0 (fun _=>none) 0:=
 ⟨.map [],World.ownsMap_made _ _ _ _,rfl,fun _ _=>rfl,fun _=>rfl⟩
theorem MapS.lt {w:World} {P:Program} {k:TypeId} {b n sz:Nat} {f:List UInt8→Option Value} (h:MapS w P k b n f sz):b<w.heap.size:=by
 obtain⟨D,h,_⟩:=h
 exact h.lt
theorem MapS.keep {w w':World} {P:Program} {k:TypeId} {b n sz:Nat} {f:List UInt8→Option Value} (h:MapS w P k b n f sz) (hb:w'.heap[b]?=w.heap[b]?):MapS w' P k b n f sz:=by
 obtain⟨D,⟨es,clock,h1,h2⟩,r⟩:=h
 exact⟨D,⟨es,clock,hb.trans h1,h2⟩,r⟩
theorem MapS.size_le {w:World} {P:Program} {k:TypeId} {b n sz:Nat} {f:List UInt8→Option Value} (h:MapS w P k b n f sz):sz≤n:=by
 obtain⟨D,h,rfl,_⟩:=h
 exact h.size_le
section
variable {P:Program} {w:World} {ops:Array Oper} {rest:List Oper} {o:Oper} {a:Act} {Q:Exit→Act→World→Prop} {k e t:TypeId} {b n sz:Nat} {f:List UInt8→Option Value}
theorem held_of {v z:Value} {x:Option Value} {ps:List MemPlace} (h:tokR v=some ((x.map DataW.held).getD (.held z),ps)):v=x.getD z:=by
 unfold tokR at h
 cases x<;>simp at h<;>simp [h.1]
theorem wpl_look (hg:o.guard=none) (m x:Operand) (hop:o.op=Op.lookup t m x true) (hk:P.underlying k=some .string) (ht:P.underlying t=some (.map k e)) {z:Value} (hz:(zeroValue e).run P w= .ok z w)
  (hm:a.eval m= .map (some b)) (h:MapS w P k b n f sz) {s:ByteArray} (hx:a.eval x= .string s) (hs:s.size≤maxLen)
  (hK:wpList P ops Q rest (a.put o.dst (.tuple #[(f s.data.toList).getD z, .bool (f s.data.toList).isSome])) w):wpList P ops Q (o::rest) a w:=by
 obtain⟨D,hown,_,hat,hh⟩:=h
 refine wpList_lookup_own_ok w hg m x t hop k e (string_keyed hk) ht tokR hz (.held z) [] rfl b n D hm hown (.string s) _ hx (Go.WideMaps.keyOf_string_mk hk hs) fun v ps hv=> ?_
 rw [hat] at hv
 rw [held_of hv,hh]
 exact hK
theorem wpl_get (hg:o.guard=none) (m x:Operand) (hop:o.op=Op.lookup t m x false) (hk:P.underlying k=some .string) (ht:P.underlying t=some (.map k e)) {z:Value} (hz:(zeroValue e).run P w= .ok z w)
  (hm:a.eval m= .map (some b)) (h:MapS w P k b n f sz) {s:ByteArray} (hx:a.eval x= .string s) (hs:s.size≤maxLen)
  (hK:wpList P ops Q rest (a.put o.dst ((f s.data.toList).getD z)) w):wpList P ops Q (o::rest) a w:=by
 obtain⟨D,hown,_,hat,hh⟩:=h
 obtain⟨v,ps,hrun,hv⟩:=hown.lookup (string_keyed hk) ht hz (R:=tokR) rfl (Go.WideMaps.keyOf_string_mk hk hs)
 rw [hat] at hv
 refine wpList_plain hg fun K' hK'=> ?_
 unfold Oper.wp
 simp [execOp,hop,hm,hx,hrun,Result.andThen]
 rw [held_of hv]
 exact hK' _ _ hK
theorem wpl_mlen (hg:o.guard=none) (m:Operand) (hop:o.op=Op.call { callee:=Callee.builtin Builtin.len,args:= #[m],argTypes:= #[t] }) (ht:P.underlying t=some (.map k e))
  (hm:a.eval m= .map (some b)) (h:MapS w P k b n f sz) (hK:wpList P ops Q rest (a.put o.dst (.int .i64 sz)) w):wpList P ops Q (o::rest) a w:=by
 obtain⟨D,hown,rfl,_⟩:=h
 exact wpList_len_own w hg m t hop k e ht tokR b n D hm hown hK
theorem lit_ne {s k:List UInt8} (h:s≠k):Lit.string s≠Lit.string k:=fun e=>h (by injection e)
theorem wpl_put (hg:o.guard=none) (m x v:Operand) (hop:o.op=Op.mapUpdate t m x v) (hk:P.underlying k=some .string) (ht:P.underlying t=some (.map k e))
  (hm:a.eval m= .map (some b)) (h:MapS w P k b n f sz) (hn:n<maxLen) {s:ByteArray} (hx:a.eval x= .string s) (hs:s.size≤maxLen) {u:Value} (hv:a.eval v=u)
  (hK: ∀w',MapS w' P k b (n+1) (putF f s.data.toList u) (if(f s.data.toList).isSome then sz else sz+1)→w.grownBy w' (some b)→wpList P ops Q rest (a.put o.dst undef) w'):wpList P ops Q (o::rest) a w:=by
 obtain⟨D,hown,hsz,hat,hh⟩:=h
 have ht':=hown.tidy (string_keyed hk)
 refine wpList_mapUpdate_in w hg m x v t hop k e (string_keyed hk) ht tokR b n D hm hown hn (.string s) u _ hx hv (Go.WideMaps.keyOf_string_mk hk hs) (.held u) [] rfl fun w' h1 h2=>hK w' ⟨_,h1, ?_, ?_, ?_⟩ h2.grown
 ·rw [size_put ht',hh,hsz]
 ·intro s' z
  unfold putF
  by_cases hs':s'=s.data.toList
  ·subst hs'
   rw [atKey_put_same ht'.isMap (by simp [WideAt.IsKeyLit]),if_pos rfl]
   rfl
  ·rw [atKey_put_other (lit_ne hs'),if_neg hs',hat]
 ·intro s'
  unfold putF
  by_cases hs':s'=s.data.toList
  ·subst hs'
   rw [has_put_same ht'.isMap (by simp [WideAt.IsKeyLit]),if_pos rfl]
   rfl
  ·rw [has_put_other (lit_ne hs'),if_neg hs',hh]
end
end Go.Proofs.YtpbnjakeielipaaGreatDoor
namespace Go.Proofs.YtpbnjakeielipaaGreatDoor
open Go Go.RowKit Lib
theorem strOf_bytes (l:List UInt8):strOfNums (l.map fun x=> (x.toNat:Int))=⟨l.toArray⟩:=by
 unfold strOfNums
 congr 1
 rw [List.map_map]
 congr 1
 conv=>rhs;rw [←List.map_id l]
 apply List.map_congr_left
 intro x _
 simp
theorem RdB.str {w:World} {A:Option Addr} {len cap:Nat} {l:List UInt8} (h:RdB w A len cap l):(convert 35 9 (.slice A len cap)).run Tryz.prog w= .ok (.string ⟨l.toArray⟩) w:=by
 rcases Nat.eq_zero_or_pos len with h0|h0
 ·have hl:l= []:=List.eq_nil_of_length_eq_zero (by have:=h.hlen;omega)
  subst hl
  subst h0
  rw [run_convert_bytes_string (P:=Tryz.prog) w 35 9 5 A 0 cap Tryz.underlying35 Tryz.underlying5 Tryz.underlying9]
  rcases A with _|a
  ·simp [Conv.bytesToString]
   rfl
  ·have:=run_bytesToString (P:=Tryz.prog) w a 0 cap [] (by simpa using run_loadCells_list (P:=Tryz.prog) w a [] (fun j v hj=>by simp at hj))
   rw [this]
   rfl
 ·obtain⟨b,off,rfl,_,hc⟩:=h.hat h0
  have:=run_convert_bytes_arg (P:=Tryz.prog) w 35 5 Tryz.underlying35 Tryz.underlying5 b off len cap (l.map fun x=> (x.toNat:Int)) (by simpa using h.hlen.symm) (fun i hi=>by
   rw [hc i hi]
   have hi2:i<l.length:=by have:=h.hlen;omega
   simp [byt,List.getD,List.getElem?_map,List.getElem?_eq_getElem hi2]) 9 Tryz.underlying9
  rw [this,strOf_bytes]
theorem RdB.part {w:World} {b off len cap:Nat} {l:List UInt8} (h:RdB w (some ⟨b,off,none⟩) len cap l) (p n:Nat) (hp:p+n≤len) (h1:0<n):RdB w (some ⟨b,off+p,none⟩) n (cap - p) ((l.drop p).take n):=by
 have h2:=h.hlen
 have h3:=h.hle
 have h4:=h.hmax
 refine⟨by simp;omega,by omega,by omega,fun _=> ?_⟩
 obtain⟨b',off',e,hlt,hc⟩:=h.hat (by omega)
 injection e with e
 injection e with e1 e2 e3
 subst e1
 subst e2
 refine⟨b,off+p,rfl,hlt,fun i hi=> ?_⟩
 rw [byt_take _ _ _ hi,Nat.add_assoc,hc (p+i) (by omega)]
 congr 2
 unfold byt
 rw [List.getD_eq_getElem?_getD,List.getD_eq_getElem?_getD,List.getElem?_drop]
theorem wpl_own {P:Program} {w:World} {ops:Array Oper} {rest:List Oper} {o:Oper} {a:Act} {Q:Exit→Act→World→Prop} (hgd:o.guard=none) (s x:Operand) (t:TypeId)
  (ho:o.op= .call { callee:= .builtin .append,args:= #[s,x],argTypes:= #[t,t] }) {e:TypeId} {z:Value} {size bytes:Nat}
  (ht:P.underlying t=some (.slice e)) (hi:(P.info? e).map (fun i=> (i.zero,i.size,i.bytes))=some (some z,size,bytes)) (hzs:z.cells.size=size) (hsz:0<size)
  (base:Nat) {v:Value} {n:Nat} {xs:List Value} (hs:a.eval s=v) (hown:w.ownsRow base e size v n xs)
  {A:Option Addr} {m c:Nat} {news:List Value} (hx:a.eval x= .slice A m c) (hl:news.length=m*size) (hnews:0<m→ ∃ad,A=some ad∧ ∀j u,news[j]?=some u→w.cell? (ad.add j)=some u) (h1: ∀u∈news,u.oneCell'=true)
  (h63:n+m≤maxLen) (hbytes:(n+m)*bytes≤140737488355328) (hbase:base≤w.heap.size)
  (h: ∀v' w',w'.ownsRow base e size v' (n+m) (xs++news)→w.grownBy w' v.ownBlock→Below base w w'→wpList P ops Q rest (a.put o.dst v') w'):wpList P ops Q (o::rest) a w:=by
 rcases Nat.eq_zero_or_pos (n+m) with h0|hpos
 ·obtain⟨rfl,rfl⟩:n=0∧m=0:=by omega
  obtain⟨i,hi,hz,hsize,hby⟩:=info_parts hi
  have hn:news= []:=List.eq_nil_of_length_eq_zero (by simpa using hl)
  subst hn
  have hrun:(Builtin.append_ #[t,t] o.type #[v, .slice A 0 c]).run P w= .ok v w:=by
   rcases A with _|ad
   ·exact run_append_nothing w base t o.type e i size ht hi v 0 xs hown c
   ·have hl0:(loadCells ad 0).run P w= .ok #[] w:=by simpa using run_loadCells_list (P:=P) w ad [] (fun j v hj=>by simp at hj)
    rcases hown.2 with⟨rfl,_⟩ | ⟨g,cap,cur,rfl,_,_,hnc,_⟩
    ·simp [Builtin.append_,run_underlying ht,sizeOf,typeInfo,hi,Builtin.lenOf,Builtin.firstCells,hl0,storeCells]
    ·simp [Builtin.append_,run_underlying ht,sizeOf,typeInfo,hi,Builtin.lenOf,Builtin.firstCells,hnc,hl0,storeCells]
  refine wpList_plain hgd fun K hK=> ?_
  unfold Oper.wp execOp
  simp only [ho,resolve,invoke,builtin,Sem.run_bind,Sem.run_pure,Result.andThen_ok,List.map_toArray,List.map_cons,List.map_nil,hs,hx,hrun]
  exact hK _ _ (h v w (by simpa using hown) (World.grownBy.refl w _) (Below.refl _ _))
 ·exact wpl_lies hgd s x t ho ht hi hzs hsz base hs hown hx hl hnews h1 hpos h63 hbytes hbase fun g cap w' h2 h3 h4 _ _=>h _ w' h2 h3 h4
theorem wp_region_tail {P:Program} {id:Nat} {Q:Exit→Act→World→Prop} {a:Act} {w:World} {l:List Oper} (n:Nat) (hm:P.follows .mixedOrders=true) (hB:Region.lexTailB .any l.toArray n=true)
  (h:wpStill P l.toArray (w.drewN 1) (fun a'=>wpList P l.toArray Q (l.drop n) a' (w.drewN 1)) (l.take n) a):(Code.region id l.toArray true).wp P Q a w:=wp_region_still_tail n hm hB h
theorem still_of_quiet {P:Program} {ops:Array Oper} {w:World} {Q:Act→Prop}: ∀(l:List Oper) (a:Act),wpQuiet P ops (fun x=>x=w) Q l a→wpStill P ops w Q l a
 | [],_,h=>h
 |o::rest,a,h=>by
  unfold wpQuiet at h
  unfold wpStill
  split at h
  ·rename_i hw
   rw [if_pos hw]
   obtain⟨v,h1,h2⟩:=h
   have h3:=h1 w rfl
   unfold Oper.quietAt at h3
   unfold Oper.still
   generalize (execOp a.eval o).run P w=r at h3⊢
   unfold Oper.quietUpon at h3
   unfold Oper.stillUpon
   split at h3
   ·obtain⟨rfl,rfl⟩:=h3
    exact⟨rfl,still_of_quiet rest _ h2⟩
   ·obtain⟨rfl,rfl⟩:=h3
    exact⟨rfl,still_of_quiet rest _ h2⟩
   ·exact⟨h3.1,v,h3.2,still_of_quiet rest _ h2⟩
   ·exact h3.elim
  ·rename_i hw
   rw [if_neg hw]
   exact still_of_quiet rest _ h
theorem wp_region_head {P:Program} {id:Nat} {Q:Exit→Act→World→Prop} {a:Act} {w:World} {l:List Oper} (n:Nat) (hm:P.follows .mixedOrders=true) (hB:Region.lexTailB .any l.toArray n=true)
  (h:wpQuiet P l.toArray (fun x=>x=w.drewN 1) (fun a'=>wpList P l.toArray Q (l.drop n) a' (w.drewN 1)) (l.take n) a):(Code.region id l.toArray true).wp P Q a w:=wp_region_tail n hm hB (still_of_quiet _ _ h)
section Floating
variable {P:Program} {Q:Exit→Act→World→Prop}
end Floating
end Go.Proofs.YtpbnjakeielipaaGreatDoor
namespace Go.Proofs.YtpbnjakeielipaaGreatDoor
open Go Go.RowKit Lib Go.Maps
structure But (B:Nat) (S:List Nat) (w w':World):Prop where
 os:w'.os=w.os
 tape:w'.tape=w.tape
 output:w'.output=w.output
 size:w.heap.size≤w'.heap.size
 block: ∀k,k<B→k∉S→w'.heap[k]?=w.heap[k]?
theorem But.of_below {B:Nat} {S:List Nat} {w w':World} (h:Below B w w'):But B S w w':=⟨h.os,h.tape,h.output,h.size,fun k hk _=>h.block k hk⟩
theorem But.below {B:Nat} {w w':World} (h:But B [] w w'):Below B w w':=⟨h.os,h.tape,h.output,h.size,fun k hk=>h.block k hk (by simp)⟩
theorem But.refl (B:Nat) (S:List Nat) (w:World):But B S w w:=⟨rfl,rfl,rfl,Nat.le_refl _,fun _ _ _=>rfl⟩
theorem But.trans {B:Nat} {S:List Nat} {a b c:World} (h:But B S a b) (k:But B S b c):But B S a c:=
 ⟨k.os.trans h.os,k.tape.trans h.tape,k.output.trans h.output,Nat.le_trans h.size k.size,fun i hi hs=> (k.block i hi hs).trans (h.block i hi hs)⟩
theorem But.mono {B B':Nat} {S S':List Nat} {w w':World} (h:But B S w w') (hB:B'≤B) (hS: ∀k,k<B'→k∈S→k∈S'):But B' S' w w':=
 ⟨h.os,h.tape,h.output,h.size,fun k hk hs=>h.block k (by omega) (fun hk'=>hs (hS k hk hk'))⟩
theorem But.grown {B:Nat} {S:List Nat} {a w w':World} {row:Option Nat} (h:But B S a w) (hg:w.grownBy w' row) (hB:B≤w.heap.size) (hr: ∀k,row=some k→k∈S∨B≤k):But B S a w':=
 h.trans ⟨hg.os,hg.tape,hg.output,hg.size,fun k hk hs=>hg.block k (by omega) (fun e=>by
  rcases hr k e.symm with h1|h1
  ·exact hs h1
  ·omega)⟩
theorem But.cell {B:Nat} {S:List Nat} {w w':World} (h:But B S w w') {p:Addr} (hp:p.block<B) (hs:p.block∉S):w'.cell? p=w.cell? p:=World.cell?_of_block (w:=w) (h.block p.block hp hs)
theorem But.frozen {B:Nat} {S:List Nat} {w w':World} (h:But B S w w') {p:Addr} (hp:p.block<B) (hs:p.block∉S):w'.frozen? p=w.frozen? p:=World.frozen?_of_block (w:=w) (h.block p.block hp hs)
theorem MapS.but {w w':World} {P:Program} {k:TypeId} {b n sz:Nat} {f:List UInt8→Option Value} (h:MapS w P k b n f sz) {B:Nat} {S:List Nat} (hb:But B S w w') (hB:b<B) (hs:b∉S):MapS w' P k b n f sz:=h.keep (hb.block b hB hs)
theorem MapS.store {P:Program} {w:World} {k e t:TypeId} {b n sz:Nat} {f:List UInt8→Option Value} (h:MapS w P k b n f sz) (hk:P.underlying k=some .string) (ht:P.underlying t=some (.map k e)) (hn:n<maxLen)
  {s:ByteArray} (hs:s.size≤maxLen) (u:Value): ∃w',(Instr.mapUpdate t (.map (some b)) (.string s) u).run P w= .ok () w'∧MapS w' P k b (n+1) (putF f s.data.toList u) (if(f s.data.toList).isSome then sz else sz+1)∧w.grownBy w' (some b):=by
 obtain⟨D,hown,hsz,hat,hh⟩:=h
 have ht':=hown.tidy (string_keyed hk)
 obtain⟨w',hrun,h1,h2⟩:=hown.store (string_keyed hk) ht hn (Go.WideMaps.keyOf_string_mk hk hs) (val:=u) (d:= .held u) (ps:= []) rfl
 refine⟨w',hrun,⟨_,h1, ?_, ?_, ?_⟩,h2.grown⟩
 ·rw [size_put ht',hh,hsz]
 ·intro s' z
  unfold putF
  by_cases hs':s'=s.data.toList
  ·subst hs'
   rw [atKey_put_same ht'.isMap (by simp [WideAt.IsKeyLit]),if_pos rfl]
   rfl
  ·rw [atKey_put_other (lit_ne hs'),if_neg hs',hat]
 ·intro s'
  unfold putF
  by_cases hs':s'=s.data.toList
  ·subst hs'
   rw [has_put_same ht'.isMap (by simp [WideAt.IsKeyLit]),if_pos rfl]
   rfl
  ·rw [has_put_other (lit_ne hs'),if_neg hs',hh]
theorem own_run {P:Program} (w:World) (t ty:TypeId) {e:TypeId} {z:Value} {size bytes:Nat}
  (ht:P.underlying t=some (.slice e)) (hi:(P.info? e).map (fun i=> (i.zero,i.size,i.bytes))=some (some z,size,bytes)) (hzs:z.cells.size=size) (hsz:0<size)
  (base:Nat) {v:Value} {n:Nat} {xs:List Value} (hown:w.ownsRow base e size v n xs)
  {A:Option Addr} {m c:Nat} {news:List Value} (hl:news.length=m*size) (hnews:0<m→ ∃ad,A=some ad∧ ∀j u,news[j]?=some u→w.cell? (ad.add j)=some u) (h1: ∀u∈news,u.oneCell'=true)
  (h63:n+m≤maxLen) (hbytes:(n+m)*bytes≤140737488355328) (hbase:base≤w.heap.size):
  ∃v' w',(Builtin.append_ #[t,t] ty #[v, .slice A m c]).run P w= .ok v' w'∧w'.ownsRow base e size v' (n+m) (xs++news)∧w.grownBy w' v.ownBlock∧Below base w w':=by
 obtain⟨i,hi,hz,hsize,hby⟩:=info_parts hi
 rcases A with _|ad
 ·have hm:m=0:=by
   rcases Nat.eq_zero_or_pos m with h0|h0
   ·exact h0
   ·obtain⟨ad,h,_⟩:=hnews h0
    cases h
  subst hm
  have hn:news= []:=List.eq_nil_of_length_eq_zero (by simpa using hl)
  subst hn
  exact⟨v,w,run_append_nothing w base t ty e i size ht hi v n xs hown c,by simpa using hown,World.grownBy.refl w _,Below.refl _ _⟩
 ·have hcells: ∀j u,news[j]?=some u→w.cell? (ad.add j)=some u:=by
   intro j u hu
   rcases Nat.eq_zero_or_pos m with h0|h0
   ·subst h0
    have hn:news= []:=List.eq_nil_of_length_eq_zero (by simpa using hl)
    subst hn
    simp at hu
   ·obtain⟨ad',h,hc⟩:=hnews h0
    injection h with h
    subst h
    exact hc j u hu
  obtain⟨v',w',hrun,h2,h3,_,h5⟩:=run_append_own_at (P:=P) w base t ty e i z size bytes ht hi hz hsize hby hzs hsz v n xs hown ad m c news hl hcells h1 h63 hbytes hbase
  exact⟨v',w',hrun,h2,h3,(Below.refl _ _).grown h3 hbase fun k hk=> (hown.lt k hk).1⟩
theorem step_own {P:Program} {w:World} {ops:Array Oper} {o:Oper} {a:Act} {K:Act→World→Prop} {Q:Exit→Act→World→Prop} {E:Prop} (hgd:o.guard=none) (s x:Operand) (t:TypeId)
  (ho:o.op= .call { callee:= .builtin .append,args:= #[s,x],argTypes:= #[t,t] }) {e:TypeId} {z:Value} {size bytes:Nat}
  (ht:P.underlying t=some (.slice e)) (hi:(P.info? e).map (fun i=> (i.zero,i.size,i.bytes))=some (some z,size,bytes)) (hzs:z.cells.size=size) (hsz:0<size)
  (base:Nat) {v:Value} {n:Nat} {xs:List Value} (hs:a.eval s=v) (hown:w.ownsRow base e size v n xs)
  {A:Option Addr} {m c:Nat} {news:List Value} (hx:a.eval x= .slice A m c) (hl:news.length=m*size) (hnews:0<m→ ∃ad,A=some ad∧ ∀j u,news[j]?=some u→w.cell? (ad.add j)=some u) (h1: ∀u∈news,u.oneCell'=true)
  (h63:n+m≤maxLen) (hbytes:(n+m)*bytes≤140737488355328) (hbase:base≤w.heap.size)
  (h: ∀v' w',w'.ownsRow base e size v' (n+m) (xs++news)→w.grownBy w' v.ownBlock→Below base w w'→K (a.put o.dst v') w'):if Region.wanted o (yielded ops a.tmps)=true then Oper.wp P o a w K Q else E:=by
 have hw:Region.wanted o (yielded ops a.tmps)=true:=by simp [Region.wanted,hgd]
 rw [if_pos hw]
 obtain⟨v',w',hr,h2,h3,h4⟩:=own_run (P:=P) w t o.type ht hi hzs hsz base hown (A:=A) (m:=m) (c:=c) hl hnews h1 h63 hbytes hbase
 unfold Oper.wp execOp
 simp only [ho,resolve,invoke,builtin,Sem.run_bind,Sem.run_pure,Result.andThen_ok,List.map_toArray,List.map_cons,List.map_nil,hs,hx,hr]
 exact h v' w' h2 h3 h4
end Go.Proofs.YtpbnjakeielipaaGreatDoor
namespace Go.Proofs.YtpbnjakeielipaaGreatDoor
open Go Go.RowKit Lib
structure Ko where
 tag:Int
 text:ByteArray
 num:Int
 a:Int
 b:Int
def Ko.cells (k:Ko):List Value:= [.int .i64 k.tag, .string k.text, .int .i64 k.num, .int .i64 k.a, .int .i64 k.b]
structure FieldV where
 acc:Int
 name:Int
 desc:Int
 value:Int
def FieldV.cells (f:FieldV):List Value:= [.int .i64 f.acc, .int .i64 f.name, .int .i64 f.desc, .int .i64 f.value]
structure TrapV where
 lo:Int
 hi:Int
 tgt:Int
 kind:Int
def TrapV.cells (f:TrapV):List Value:= [.int .i64 f.lo, .int .i64 f.hi, .int .i64 f.tgt, .int .i64 f.kind]
structure MethV where
 acc:Int
 name:Int
 desc:Int
 has:Bool
 stack:Int
 locals:Int
 code:List UInt8
 traps:List TrapV
structure ClassV where
 minor:Int
 major:Int
 pool:List Ko
 acc:Int
 this:Int
 sup:Int
 ifs:List Int
 flds:List FieldV
 mths:List MethV
def SlAt (w:World) (ok:Nat→Prop) (size n:Nat) (cells:List Value) (v:Value):Prop:=
 ∃A cap,v= .slice A n cap∧n≤cap∧n≤1048576∧cells.length=n*size∧(0<n→ ∃b off,A=some ⟨b,off,none⟩∧b<w.heap.size∧ok b∧ ∀j u,cells[j]?=some u→w.cell? ⟨b,off+j,none⟩=some u)
structure Kept (ok:Nat→Prop) (w w':World):Prop where
 size:w.heap.size≤w'.heap.size
 cell: ∀g,g<w.heap.size→ok g→ ∀o,w'.cell? ⟨g,o,none⟩=w.cell? ⟨g,o,none⟩
theorem Kept.of_but {ok:Nat→Prop} {S:List Nat} {w w':World} (h:But w.heap.size S w w') (hs: ∀g,ok g→g∉S):Kept ok w w':=
 ⟨h.size,fun g hg ho o=>h.cell (p:=⟨g,o,none⟩) hg (hs g ho)⟩
theorem Kept.of_below {ok:Nat→Prop} {w w':World} (h:Below w.heap.size w w'):Kept ok w w':=⟨h.size,fun g hg _ o=>h.cell (p:=⟨g,o,none⟩) hg⟩
theorem Kept.trans {ok:Nat→Prop} {a b c:World} (h:Kept ok a b) (k:Kept ok b c):Kept ok a c:=
 ⟨Nat.le_trans h.size k.size,fun g hg ho o=> (k.cell g (Nat.lt_of_lt_of_le hg h.size) ho o).trans (h.cell g hg ho o)⟩
theorem Kept.mono {ok ok':Nat→Prop} {w w':World} (h:Kept ok w w') (hs: ∀g,ok' g→ok g):Kept ok' w w':=⟨h.size,fun g hg ho o=>h.cell g hg (hs g ho) o⟩
theorem SlAt.keep {w w':World} {ok:Nat→Prop} {size n:Nat} {cells:List Value} {v:Value} (h:SlAt w ok size n cells v) (hk:Kept ok w w'):SlAt w' ok size n cells v:=by
 obtain⟨A,cap,rfl,h1,h2,h3,h4⟩:=h
 refine⟨A,cap,rfl,h1,h2,h3,fun h0=> ?_⟩
 obtain⟨b,off,e,hlt,ho,hc⟩:=h4 h0
 exact⟨b,off,e,Nat.lt_of_lt_of_le hlt hk.size,ho,fun j u hu=> (hk.cell b hlt ho _).trans (hc j u hu)⟩
theorem SlAt.mono {w:World} {ok ok':Nat→Prop} {size n:Nat} {cells:List Value} {v:Value} (h:SlAt w ok size n cells v) (hs: ∀g,g<w.heap.size→ok g→ok' g):SlAt w ok' size n cells v:=by
 obtain⟨A,cap,rfl,h1,h2,h3,h4⟩:=h
 refine⟨A,cap,rfl,h1,h2,h3,fun h0=> ?_⟩
 obtain⟨b,off,e,hlt,ho,hc⟩:=h4 h0
 exact⟨b,off,e,hlt,hs b hlt ho,hc⟩
theorem slAt_nil (w:World) (ok:Nat→Prop) (size:Nat):SlAt w ok size 0 [] (.slice none 0 0):=⟨none,0,rfl,Nat.le_refl _,by omega,by simp,fun h=>absurd h (by omega)⟩
theorem slAt_own {w:World} {base:Nat} {e:TypeId} {size n:Nat} {v:Value} {xs:List Value} (h:w.ownsRow base e size v n xs) (ok:Nat→Prop) (hs:0<size) (hn:n≤1048576) (ho: ∀g,v.ownBlock=some g→ok g):SlAt w ok size n xs v:=by
 rcases h.2 with⟨rfl,h0⟩ | ⟨g,cap,cur,rfl,hb,hg,hnc,hcm,hcs,hx⟩
 ·subst h0
  have hn0:xs= []:=by
   have hl:=h.1
   simp at hl
   exact hl
  subst hn0
  exact slAt_nil w ok size
 ·exact⟨_,cap,rfl,hnc,hn,h.1,fun h0=> ⟨g,0,rfl,(h.lt g rfl).2,ho g rfl,fun j u hu=>by
   have hl:j<n*size:=by
    have:=(List.getElem?_eq_some_iff.1 hu).1
    have:=h.1
    omega
   rw [Nat.zero_add,h.cellAt j hl]
   exact hu⟩⟩
structure MethAt (w:World) (ok:Nat→Prop) (m:MethV) (code traps:Value):Prop where
 hcode:SlAt w ok 1 m.code.length (m.code.map bV) code
 htraps:SlAt w ok 4 m.traps.length (m.traps.flatMap TrapV.cells) traps
def MethV.cells (m:MethV) (code traps:Value):List Value:= [.int .i64 m.acc, .int .i64 m.name, .int .i64 m.desc, .bool m.has, .int .i64 m.stack, .int .i64 m.locals,code,traps]
def methCells (ms:List (MethV×Value×Value)):List Value:=ms.flatMap fun m=>m.1.cells m.2.1 m.2.2
def ClassV.cells (c:ClassV) (pool ifs flds mths:Value):List Value:= [.int .i64 c.minor, .int .i64 c.major,pool, .int .i64 c.acc, .int .i64 c.this, .int .i64 c.sup,ifs,flds,mths]
structure ClassAt (w:World) (ok:Nat→Prop) (c:ClassV) (pool ifs flds mths:Value):Prop where
 hpool:SlAt w ok 5 c.pool.length (c.pool.flatMap Ko.cells) pool
 hifs:SlAt w ok 1 c.ifs.length (c.ifs.map (Value.int .i64)) ifs
 hflds:SlAt w ok 4 c.flds.length (c.flds.flatMap FieldV.cells) flds
 hmths: ∃ms:List (MethV×Value×Value),ms.map (·.1)=c.mths∧SlAt w ok 8 c.mths.length (methCells ms) mths∧ ∀m∈ms,MethAt w ok m.1 m.2.1 m.2.2
theorem ClassAt.keep {w w':World} {ok:Nat→Prop} {c:ClassV} {pool ifs flds mths:Value} (h:ClassAt w ok c pool ifs flds mths) (hk:Kept ok w w'):ClassAt w' ok c pool ifs flds mths where
 hpool:=h.hpool.keep hk
 hifs:=h.hifs.keep hk
 hflds:=h.hflds.keep hk
 hmths:=by
  obtain⟨ms,h1,h2,h3⟩:=h.hmths
  exact⟨ms,h1,h2.keep hk,fun m hm=> ⟨(h3 m hm).hcode.keep hk,(h3 m hm).htraps.keep hk⟩⟩
theorem ClassAt.mono {w:World} {ok ok':Nat→Prop} {c:ClassV} {pool ifs flds mths:Value} (h:ClassAt w ok c pool ifs flds mths) (hs: ∀g,g<w.heap.size→ok g→ok' g):ClassAt w ok' c pool ifs flds mths where
 hpool:=h.hpool.mono hs
 hifs:=h.hifs.mono hs
 hflds:=h.hflds.mono hs
 hmths:=by
  obtain⟨ms,h1,h2,h3⟩:=h.hmths
  exact⟨ms,h1,h2.mono hs,fun m hm=> ⟨(h3 m hm).hcode.mono hs,(h3 m hm).htraps.mono hs⟩⟩
structure Rs where
 pos:Nat
 most:Nat
 named:Nat
 pool:List Ko
abbrev Rx (α:Type):=Except (Nat×Nat) (α×Rs)
def Rx.bind {α β:Type} (x:Rx α) (f:α→Rs→Rx β):Rx β:=
 match x with
 | .error e=> .error e
 | .ok (a,s)=>f a s
theorem Rx.bind_ok {α β:Type} (a:α) (s:Rs) (f:α→Rs→Rx β):Rx.bind (.ok (a,s)) f=f a s:=rfl
theorem Rx.bind_assoc {α β γ:Type} (x:Rx α) (f:α→Rs→Rx β) (g:β→Rs→Rx γ):Rx.bind (Rx.bind x f) g=Rx.bind x fun a s=>Rx.bind (f a s) g:=by
 rcases x with e| ⟨a,s⟩ <;>rfl
def bytesP (l:List UInt8) (n:Nat) (st:Rs):Rx (List UInt8):=
 if l.length<st.pos+n then .error (st.pos,10) else if st.most<st.pos+n then .error (st.named,25) else .ok ((l.drop st.pos).take n,{ st with pos:=st.pos+n })
def beN (l:List UInt8):Nat:=l.foldl (fun v x=>v*256+x.toNat) 0
def numP (l:List UInt8) (n:Nat) (st:Rs):Rx Nat:=Rx.bind (bytesP l n st) fun b s=> .ok (beN b,s)
def countP (l:List UInt8) (m:Nat) (st:Rs):Rx Nat:=Rx.bind (numP l 2 st) fun n s=>if m<n then .error (st.pos,2) else .ok (n,s)
def int32P (n:Nat):Int:=if n<2147483648 then n else(n:Int) - 4294967296
def koP (l:List UInt8) (st:Rs):Rx Ko:=Rx.bind (numP l 1 st) fun t s1=>
 if t=1 then Rx.bind (numP l 2 s1) fun n s2=>Rx.bind (bytesP l n s2) fun b s3=> .ok (⟨1,⟨b.toArray⟩,0,0,0⟩,s3)
 else if t=3 then Rx.bind (numP l 4 s1) fun n s2=> .ok (⟨3,⟨#[]⟩,int32P n,0,0⟩,s2)
 else if t=7 then Rx.bind (numP l 2 s1) fun n s2=> .ok (⟨7,⟨#[]⟩,0,n,0⟩,s2)
 else if t=9∨t=10∨t=11∨t=12 then Rx.bind (numP l 2 s1) fun n s2=>Rx.bind (numP l 2 s2) fun m s3=> .ok (⟨t,⟨#[]⟩,0,n,m⟩,s3)
 else .error (st.pos,13)
def repP {α:Type} (f:Rs→Rx α):Nat→Rs→Rx (List α)
 |0,st=> .ok ([],st)
 |k+1,st=>Rx.bind (f st) fun a s=>Rx.bind (repP f k s) fun r s'=> .ok (a::r,s')
def Rx.pre {α:Type} (cs:List α) (x:Rx (List α)):Rx (List α):=Rx.bind x fun r s=> .ok (cs++r,s)
theorem Rx.pre_nil {α:Type} (x:Rx (List α)):Rx.pre [] x=x:=by rcases x with e| ⟨a,s⟩ <;>rfl
theorem repP_step {α:Type} {f:Rs→Rx α} {k:Nat} {st:Rs} {cs:List α} {a:α} {s:Rs} (h:f st= .ok (a,s)):Rx.pre cs (repP f (k+1) st)=Rx.pre (cs++ [a]) (repP f k s):=by
 unfold Rx.pre
 rw [repP,h,Rx.bind_ok,Rx.bind_assoc]
 congr 1
 funext r s'
 rw [Rx.bind_ok]
 simp
theorem repP_stop {α:Type} {f:Rs→Rx α} {k:Nat} {st:Rs} {cs:List α} {e:Nat×Nat} (h:f st= .error e):Rx.pre cs (repP f (k+1) st)= .error e:=by
 unfold Rx.pre
 rw [repP,h]
 rfl
theorem repP_end {α:Type} {f:Rs→Rx α} {st:Rs} {cs:List α}:Rx.pre cs (repP f 0 st)= .ok (cs,st):=by
 unfold Rx.pre
 rw [repP,Rx.bind_ok,List.append_nil]
def nameP (l:List UInt8) (st:Rs):Rx (Nat×ByteArray):=Rx.bind (numP l 2 st) fun n s=>
 match(if n=0 then none else st.pool[n - 1]?) with
 |none=> .error (st.pos,20)
 |some k=>if k.tag=1 then .ok ((st.pos,k.text),s) else .error (st.pos,20)
def attrP {σ:Type} (l:List UInt8) (want:Option (List UInt8)) (act:σ→Nat→Nat→Rs→Rx σ):Nat→Bool→σ→Rs→Rx σ
 |0,_,x,st=> .ok (x,st)
 |k+1,seen,x,st=>Rx.bind (nameP l st) fun a s1=>
  if want=some a.2.toList∧seen=true then .error (a.1,24)
  else Rx.bind (numP l 4 s1) fun long s2=>
   if want=some a.2.toList then Rx.bind (act x a.1 long s2) fun x' s3=>attrP l want act k true x' s3
   else Rx.bind (bytesP l long s2) fun _ s3=>attrP l want act k seen x s3
def attrsP {σ:Type} (l:List UInt8) (want:Option (List UInt8)) (act:σ→Nat→Nat→Rs→Rx σ) (x:σ) (st:Rs):Rx σ:=Rx.bind (numP l 2 st) fun k s=>attrP l want act k false x s
def skipP (l:List UInt8) (st:Rs):Rx Unit:=attrsP l none (fun x _ _ s=> .ok (x,s)) () st
def constantValueL:List UInt8:= "ConstantValue".toUTF8.data.toList
def codeL:List UInt8:= "Code".toUTF8.data.toList
def fieldP (l:List UInt8) (st:Rs):Rx FieldV:=Rx.bind (numP l 2 st) fun a s1=>Rx.bind (numP l 2 s1) fun n s2=>Rx.bind (numP l 2 s2) fun d s3=>
 attrsP l (some constantValueL) (fun f at' long s=>if long≠2 then .error (at',26) else Rx.bind (numP l 2 s) fun v s'=> .ok ({ f with value:=v },s')) ⟨a,n,d,0⟩ s3
def trapP (l:List UInt8) (st:Rs):Rx TrapV:=Rx.bind (numP l 2 st) fun a s1=>Rx.bind (numP l 2 s1) fun b s2=>Rx.bind (numP l 2 s2) fun c s3=>Rx.bind (numP l 2 s3) fun d s4=> .ok (⟨a,b,c,d⟩,s4)
def codeP (l:List UInt8) (m:MethV) (at' long:Nat) (st:Rs):Rx MethV:=
 Rx.bind (numP l 2 { st with most:=st.pos+long,named:=at' }) fun sk s1=>Rx.bind (numP l 2 s1) fun lo s2=>Rx.bind (numP l 4 s2) fun n s3=>
  if 4096<n then .error (s2.pos,2)
  else Rx.bind (bytesP l n s3) fun b s4=>Rx.bind (countP l 64 s4) fun k s5=>Rx.bind (repP (trapP l) k s5) fun ts s6=>Rx.bind (skipP l s6) fun _ s7=>
   if s7.pos≠s7.most then .error (at',25) else .ok ({ m with has:=true,stack:=sk,locals:=lo,code:=b,traps:=ts },{ s7 with most:=4611686018427387904 })
def methP (l:List UInt8) (st:Rs):Rx MethV:=Rx.bind (numP l 2 st) fun a s1=>Rx.bind (numP l 2 s1) fun n s2=>Rx.bind (numP l 2 s2) fun d s3=>
 attrsP l (some codeL) (fun m at' long s=>codeP l m at' long s) ⟨a,n,d,false,0,0, [], []⟩ s3
def clsE (l:List UInt8) (mi ma:Nat) (pool:List Ko) (a t u:Nat) (ifs:List Nat) (flds:List FieldV) (mths:List MethV) (s:Rs):Rx ClassV:=Rx.bind (skipP l s) fun _ s'=>
 if s'.pos<l.length then .error (s'.pos,14) else .ok (⟨mi,ma,pool,a,t,u,ifs.map Int.ofNat,flds,mths⟩,s')
def clsD (l:List UInt8) (mi ma:Nat) (pool:List Ko) (a t u:Nat) (ifs:List Nat) (flds:List FieldV) (s:Rs):Rx ClassV:=Rx.bind (countP l 64 s) fun n s'=>Rx.bind (repP (methP l) n s') (clsE l mi ma pool a t u ifs flds)
def clsC (l:List UInt8) (mi ma:Nat) (pool:List Ko) (a t u:Nat) (ifs:List Nat) (s:Rs):Rx ClassV:=Rx.bind (countP l 64 s) fun n s'=>Rx.bind (repP (fieldP l) n s') (clsD l mi ma pool a t u ifs)
def clsB (l:List UInt8) (mi ma:Nat) (pool:List Ko) (s:Rs):Rx ClassV:=Rx.bind (numP l 2 { s with pool:=pool }) fun a s5=>Rx.bind (numP l 2 s5) fun t s6=>Rx.bind (numP l 2 s6) fun u s7=>
 Rx.bind (countP l 64 s7) fun n s'=>Rx.bind (repP (numP l 2) n s') (clsC l mi ma pool a t u)
def classP (l:List UInt8) (st:Rs):Rx ClassV:=Rx.bind (numP l 4 st) fun m s0=>if m≠3405691582 then .error (0,11)
 else Rx.bind (numP l 2 s0) fun mi s1=>Rx.bind (numP l 2 s1) fun ma s2=>Rx.bind (countP l 1025 s2) fun n s3=>if n=0 then .error (s2.pos,20)
  else Rx.bind (repP (koP l) (n - 1) s3) (clsB l mi ma)
def readP (l:List UInt8):Except (Nat×Nat) ClassV:=
 if 65536<l.length then .error (0,2)
 else match classP l ⟨0,4611686018427387904,0, []⟩ with
  | .error e=> .error e
  | .ok (c,_)=> .ok c
end Go.Proofs.YtpbnjakeielipaaGreatDoor
namespace Go.Proofs.YtpbnjakeielipaaGreatDoor
open Go Go.RowKit
theorem i64_or_nat (a b:Nat) (ha:a<9223372036854775808) (hb:b<9223372036854775808):bits .or .i64 (a:Int) (b:Int)=((a|||b:Nat):Int):=by
 have hx:a|||b<2^63:=Nat.or_lt_two_pow (by omega) (by omega)
 show IntKind.i64.wrap ((BitVec.ofInt 64 (a:Int) |||BitVec.ofInt 64 (b:Int)).toNat:Int)=_
 rw [BitVec.toNat_or,ofInt_u64 a (by omega),ofInt_u64 b (by omega),IntKind.wrap_i64]
 omega
theorem or_byte (v x:Nat) (hx:x<256) (hv:v<16777216):bits .or .i64 (((v*256:Nat):Int)) (x:Int)=((v*256+x:Nat):Int):=by
 rw [i64_or_nat _ _ (by omega) (by omega)]
 congr 1
 rw [show v*256=v<<<8 by rw [Nat.shiftLeft_eq], ←Nat.shiftLeft_add_eq_or_of_lt (by omega)]
end Go.Proofs.YtpbnjakeielipaaGreatDoor
