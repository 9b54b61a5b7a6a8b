/-
  What the laws rest on, part 24: walks of the program's functions and plain laws. Conditions: none but those that each theorem names.
-/
import Derived.Test.YtlcidkiplidamaaGreatDoorB00
import Derived.Test.YtlcidkiplidamaaGreatDoorB23
import Derived.Test.YtlcidkiplidamaaGreatDoorB22
import Derived.Deep.RegionHeld2
import Derived.RegionTactic
set_option linter.unusedSimpArgs false
set_option linter.unusedVariables false
set_option maxRecDepth 100000
set_option maxHeartbeats 2000000
namespace Go.Proofs.YtlcidkiplidamaaGreatDoor
open Go Go.RowKit Lib Go.Maps
theorem fqZ {σ:AsK} {m:AsM} {ws:List ByteArray} (hc:aqP (ws.headD ⟨#[]⟩).data.toList<0):σ.instr m ws=none:=by
 unfold AsK.instr
 simp only
 rw [if_pos hc]
theorem hqF {σ:AsK} {m:AsM} {ws:List ByteArray} {c:Int} {f:List UInt8} (h0:aqP (ws.headD ⟨#[]⟩).data.toList=c) (hf:(aqc c).2=f) (hl:ws.length - 1≠bqY f):σ.instr m ws=none:=by
 unfold AsK.instr
 simp only [h0,hf]
 by_cases hc:c<0
 ·rw [if_pos hc]
 rw [if_neg hc,if_pos hl]
theorem bq1 {σ:AsK} {m:AsM} {ws:List ByteArray} {c:Int} {nm f:List UInt8} (h0:aqP (ws.headD ⟨#[]⟩).data.toList=c) (hc:0≤c) (hn:(aqc c).1=nm) (hf:(aqc c).2=f) (hl:ws.length - 1=bqY f):
  σ.instr m ws=(aqL nm m.mv.code.length f ⟨σ,m.mv.code++ [aqn c],m.jumps,ws.drop 1⟩).map fun x=> { x.k with m:=some (mAt m x) }:=by
 unfold AsK.instr
 simp only [h0,hf,hn]
 rw [if_neg (by omega),if_neg (by omega)]
 rfl
theorem gqF {nm:List UInt8} {bg:Nat} {x:AsI} {s:ByteArray} {r:List ByteArray} (hr:x.rest=s::r):cqr nm bg x 98=(aqz s.data.toList (-128) 127).map fun v=> { x with rest:=r,code:=x.code++ [aqn v] }:=by
 unfold cqr
 simp [hr]
theorem fq0 {nm:List UInt8} {bg:Nat} {x:AsI} {s:ByteArray} {r:List ByteArray} (hr:x.rest=s::r) (hn:nm≠ [108,100,99]):cqr nm bg x 117=(aqz s.data.toList 0 255).map fun v=> { x with rest:=r,code:=x.code++ [aqn v] }:=by
 unfold cqr
 simp [hr,hn]
theorem iq6 {nm:List UInt8} {bg:Nat} {x:AsI} {s:ByteArray} {r:List ByteArray} (hr:x.rest=s::r):cqr nm bg x 115=(aqz s.data.toList (-32768) 32767).map fun v=> { x with rest:=r,code:=x.code++aqT v }:=by
 unfold cqr
 simp [hr]
theorem eqd {nm:List UInt8} {bg:Nat} {x:AsI} {s:ByteArray} {r:List ByteArray} (hr:x.rest=s::r) (hn:nm= [108,100,99]):cqr nm bg x 117=(aqz s.data.toList (-2147483648) 2147483647).bind fun v=>if(x.k.number v).1<256 then some { x with rest:=r,k:=(x.k.number v).2,code:=x.code++ [aqn (x.k.number v).1] } else none:=by
 unfold cqr
 simp only [hr,hn]
 cases h:aqz s.data.toList (-2147483648) 2147483647 with
 |none=>simp [h]
 |some v=>simp [h]
theorem nq1 {nm:List UInt8} {bg:Nat} {x:AsI} {s:ByteArray} {r:List ByteArray} (hr:x.rest=s::r):cqr nm bg x 106=some { x with rest:=r,jumps:=x.jumps++ [⟨x.code.length,bg,s⟩],code:=x.code++ [0,0] }:=by
 unfold cqr
 simp [hr]
theorem nq2 {nm:List UInt8} {bg:Nat} {x:AsI} {s:ByteArray} {r:List ByteArray} (hr:x.rest=s::r):cqr nm bg x 99=some { x with rest:=r,k:=(x.k.cls s).2,code:=x.code++aqT (x.k.cls s).1 }:=by
 unfold cqr
 simp [hr]
theorem nq3 {nm:List UInt8} {bg:Nat} {x:AsI} {s t u:ByteArray} {r:List ByteArray} (hr:x.rest=s::t::u::r):cqr nm bg x 102=some { x with rest:=r,k:=(x.k.member 9 s t u).2,code:=x.code++aqT (x.k.member 9 s t u).1 }:=by
 unfold cqr
 simp [hr]
theorem nq4 {nm:List UInt8} {bg:Nat} {x:AsI} {s t u:ByteArray} {r:List ByteArray} (hr:x.rest=s::t::u::r):cqr nm bg x 109=some { x with rest:=r,k:=(x.k.member 10 s t u).2,code:=x.code++aqT (x.k.member 10 s t u).1 }:=by
 unfold cqr
 simp [hr]
theorem nq5 {nm:List UInt8} {bg:Nat} {x:AsI} {s t u:ByteArray} {r:List ByteArray} (hr:x.rest=s::t::u::r):cqr nm bg x 105=some { x with rest:=r,k:=(x.k.member 11 s t u).2,code:=x.code++aqT (x.k.member 11 s t u).1++ [aqn ((aqk u).1.size+1),0] }:=by
 unfold cqr
 simp [hr]
def MapL (w:World) (P:Program) (k:TypeId) (b n:Nat) (f:Int→Option Value):Prop:= ∃D:DataW Value,w.ownsMap P k nqX b n D∧ ∀c z,D.atKey (.int .i32 c) z=((f c).map DataW.held).getD z
theorem fq1 (w:World) (P:Program) (k:TypeId):MapL (w.alloc (.map #[] 0)) P k w.heap.size 0 (fun _=>none):=⟨.map [],World.ownsMap_made _ _ _ _,fun _ _=>rfl⟩
theorem cqH {P:Program} {w:World} {ops:Array Oper} {rest:List Oper} {o:Oper} {a:Act} {Q:Exit→Act→World→Prop} {k e t:TypeId} {b n:Nat} {f:Int→Option Value} (hg:o.guard=none) (m x v:Operand) (hop:o.op=Op.insert t m x v) (hk:P.underlying k=some (.int .i32)) (ht:P.underlying t=some (.map k e))
  (hm:a.eval m= .map (some b)) (h:MapL w P k b n f) (hn:n<maxLen) {c:Int} (hx:a.eval x= .int .i32 c) (hc:(Lit.int .i32 c).wf=true) {u:Value} (hv:a.eval v=u)
  (hK: ∀w',MapL w' P k b (n+1) (fun s=>if s=c then some u else f s)→w.grownBy w' (some b)→wpList P ops Q rest (a.put o.dst undef) w'):wpList P ops Q (o::rest) a w:=by
 obtain⟨D,hown,hat⟩:=h
 have ht':=hown.tidy (int_keyed hk)
 obtain⟨w',hrun,hw,hgr⟩:=hown.update (int_keyed hk) ht hn (keyOf_int_mk hk hc) (val:=u) (d:= .held u) (ps:= []) rfl
 refine wpList_plain hg fun K' hK'=> ?_
 unfold Oper.wp
 simp [execOp,hop,hm,hx,hv,hrun,Result.andThen]
 refine hK' _ _ (hK w' ⟨_,hw,fun s z=> ?_⟩ hgr)
 show _=((if s=c then some u else f s).map DataW.held).getD z
 by_cases hs:s=c
 ·subst hs
  rw [atKey_put_same ht'.isMap (by simp [WideAt.IsKeyLit]),if_pos rfl]
  rfl
 rw [atKey_put_other (fun e=>hs (by injection e)),if_neg hs,hat]
theorem gqV {P:Program} {w:World} {ops:Array Oper} {rest:List Oper} {o:Oper} {a:Act} {Q:Exit→Act→World→Prop} {k e t:TypeId} {b n:Nat} {f:Int→Option Value} (hg:o.guard=none) (m x:Operand) (hop:o.op=Op.lookup t m x false) (hk:P.underlying k=some (.int .i32)) (ht:P.underlying t=some (.map k e)) {z:Value} (hz:(zeroValue e).run P w= .ok z w)
  (hm:a.eval m= .map (some b)) (h:MapL w P k b n f) {c:Int} (hx:a.eval x= .int .i32 c) (hc:(Lit.int .i32 c).wf=true)
  (hK:wpList P ops Q rest (a.put o.dst ((f c).getD z)) w):wpList P ops Q (o::rest) a w:=by
 obtain⟨D,hown,hat⟩:=h
 obtain⟨v,ps,hrun,hv⟩:=hown.lookup (int_keyed hk) ht hz (R:=nqX) rfl (keyOf_int_mk hk hc)
 rw [hat] at hv
 refine wpList_plain hg fun K' hK'=> ?_
 unfold Oper.wp
 simp [execOp,hop,hm,hx,hrun,Result.andThen]
 rw [gqN hv]
 exact hK' _ _ hK
theorem aqM (s:List UInt8): -1≤aqP s∧aqP s<256:=by
 unfold aqP
 split
 ·rename_i r hr
  have:=dq0 r (List.mem_of_find?_eq_some hr)
  omega
 omega
theorem WdA.rest1 {w:World} {ok:Nat→Prop} {A:Option Addr} {b off n cap:Nat} {ws:List ByteArray} (h:WdA w ok A n cap ws) (hA:A=some ⟨b,off,none⟩) (hc:1<cap):WdA w ok (some ⟨b,off+1,none⟩) (n - 1) (cap - 1) (ws.drop 1):=by
 subst hA
 have hl:=h.len
 have hle:=h.le
 have hmx:=h.max
 refine⟨by simp;omega,by omega,by omega,fun h0=> ?_⟩
 obtain⟨b',off',e,hb,hu,hcc⟩:=h.hat (by omega)
 cases e
 refine⟨b,off+1,rfl,hb,hu,fun j s hs=> ?_⟩
 have:=hcc (j+1) s (by simpa [Nat.add_comm] using hs)
 rw [←this]
 congr 2
 omega
theorem WdA.rest0 {w:World} {ok:Nat→Prop} {A:Option Addr} {n cap:Nat} {ws:List ByteArray} (h:WdA w ok A n cap ws) (A':Option Addr) (hc:cap≤1):WdA w ok A' 0 0 (ws.drop 1):=by
 have hl:=h.len
 have hle:=h.le
 exact⟨by simp;omega,by omega,by omega,fun h0=>absurd h0 (by omega)⟩
theorem lqE:aqT 0= [0,0]:=by decide
theorem jq1:aqn 0=0:=by decide
theorem eqe {ws:List ByteArray} (h:ws.length - 1=1): ∃s,ws.drop 1= [s]∧s∈ws:=by
 match ws,h with
 | [a,s],_=>exact⟨s,rfl,by simp⟩
theorem nqy {ws:List ByteArray} (h:ws.length - 1=2): ∃s t,ws.drop 1= [s,t]∧s∈ws∧t∈ws:=by
 match ws,h with
 | [a,s,t],_=>exact⟨s,t,rfl,by simp,by simp⟩
theorem eq1 {ws:List ByteArray} (h:ws.length - 1=3): ∃s t u,ws.drop 1= [s,t,u]∧s∈ws∧t∈ws∧u∈ws:=by
 match ws,h with
 | [a,s,t,u],_=>exact⟨s,t,u,rfl,by simp,by simp,by simp⟩
theorem InS.start {w W:World} {ρ:Nat→Nat} {B kb xb p1 p4 q8 it:Nat} {fs:ByteArray} {σ:AsK} {V:MkV} {m:AsM} {U:MtV} {A:Option Addr} {n cap:Nat} {ws:List ByteArray} (hk:MkC w ρ B kb σ V) (hV:V.mv= .pointer (some ⟨xb,0,none⟩)) (hm:MtC w ρ B xb m U) (hb:Below w.heap.size w W) (hw:WdA w (Un ρ) A n cap ws)
  (b1:Bx W p1 [.pointer (some ⟨kb,0,none⟩)] 63) (b4:Bx W p4 [.pointer (some ⟨xb,0,none⟩)] 65) (q:Bx W q8 [.slice A n cap] 43) (ib:W.heap[it]?=some (.stringIter fs 0)) (l1:w.heap.size≤p1) (l4:w.heap.size≤p4) (l8:w.heap.size≤q8) (li:w.heap.size≤it) (n1:p1≠q8) (n4:p4≠q8) (ni:it≠q8) (i1:it≠p1) (i4:it≠p4):
  InS w ρ B kb xb p1 p4 q8 it fs 0 m ⟨σ,m.mv.code,m.jumps,ws⟩ W where
 ex:=⟨ρ,V,U,A,n,cap,⟨hk.below hb,hV,hm.below hb,Chg.of_below hb,q,⟨hw.len,hw.le,hw.max,fun h0=>by
  obtain⟨b,off,e,hbl,hu,hc⟩:=hw.hat h0
  exact⟨b,off,e,Nat.lt_of_lt_of_le hbl hb.size,⟨hu,hbl⟩,fun j s hs=> (hb.cell (p:=⟨b,off+j,none⟩) hbl).trans (hc j s hs)⟩⟩,hk.low.fresh l1,hk.low.fresh l4,hk.low.fresh l8,hk.low.fresh li⟩⟩
 b1:=b1
 b4:=b4
 ib:=ib
 l1:=l1
 l4:=l4
 l8:=l8
 li:=li
 n1:=n1
 n4:=n4
 ni:=ni
 i1:=i1
 i4:=i4
 low:=hk.low
 hB:=hk.hB
set_option maxHeartbeats 40000000
def lq6:List Nat:= [1,2,3,4,5,6,7,8,9,10,11,12,13]
def InstrC:Prop:= ∀(ρ:Nat→Nat) (B kb xb:Nat) (σ:AsK) (V:MkV) (m:AsM) (U:MtV) (A:Option Addr) (n cap:Nat) (ws:List ByteArray) (w:World) (N:Nat),MkC w ρ B kb σ V→V.mv= .pointer (some ⟨xb,0,none⟩)→MtC w ρ B xb m U→WdA w (Un ρ) A n cap ws→SmW ws→0<n→cqB σ N→eqJ m N→N≤900000→
 Calls Tryz.prog 57 #[.pointer (some ⟨kb,0,none⟩), .slice A n cap] w (cqu lq6 w ρ B kb σ.line (σ.instr m ws))
def EndC:Prop:= ∀(ρ:Nat→Nat) (B kb xb:Nat) (σ:AsK) (V:MkV) (m:AsM) (U:MtV) (w:World) (N:Nat),MkC w ρ B kb σ V→V.mv= .pointer (some ⟨xb,0,none⟩)→MtC w ρ B xb m U→cqB σ N→eqJ m N→N≤900000→
 Calls Tryz.prog 54 #[.pointer (some ⟨kb,0,none⟩)] w (cqu lq6 w ρ B kb m.line (σ.endM m))
def nqC (w:World) (ρ:Nat→Nat) (B kb:Nat) (p:Except Nat AsK) (e:Ending) (w':World):Prop:=
 match p with
 | .ok σ'=>cqu lq6 w ρ B kb 0 (some σ') e w'
 | .error n=>cqu lq6 w ρ B kb n none e w'
theorem dqr {w w':World} {ρ:Nat→Nat} {B kb n:Nat} {p:Except Nat AsK} (hp:p= .error n) (hb:Below B w w'):nqC w ρ B kb p (.panicked [{ v:=cqg n 60,recovered:=false }]) w':=by
 subst hp
 exact⟨rfl,hb⟩
theorem fqq {w w':World} {ρ ρ':Nat→Nat} {B kb:Nat} {p:Except Nat AsK} {σ':AsK} {V':MkV} {e:Ending} (hp:p= .ok σ') (he:e= .returned (.tuple #[])) (h1:MkC w' ρ' B kb σ' V') (h2:cqZ w' ρ' B V'.mv σ'.m) (h3:Chg lq6 w ρ w' ρ'):nqC w ρ B kb p e w':=by
 subst hp
 exact⟨he,ρ',V',h1,h2,h3⟩
theorem gqX {w w':World} {ρ:Nat→Nat} {B kb n:Nat} {p:Except Nat AsK} {q:Option AsK} {e:Ending} (hp:p=match q with|none=> .error n|some x=> .ok x) (h:cqu lq6 w ρ B kb n q e w'):nqC w ρ B kb p e w':=by
 subst hp
 cases q with
 |none=>exact h
 |some x=>exact h
theorem MkC.wm {w:World} {ρ:Nat→Nat} {B kb:Nat} {σ:AsK} {V:MkV} (h:MkC w ρ B kb σ V) (m:Option AsM):MkC w ρ B kb { σ with m:=m } V:=⟨h.low,h.hB,h.box,h.kc,h.map,h.mc,h.pool,h.ifs,h.flds,h.mths⟩
theorem oqJ (s:ByteArray) (h:0<s.size):s[s.size - 1]'(by omega)=s.data.toList.getLastD 0:=by
 have hl:s.data.toList.length=s.size:=Array.length_toList
 rw [List.getLastD_eq_getLast?,List.getLast?_eq_getElem?,hl,aqv (by omega)]
 rfl
theorem nqD {w':World} {b n sz':Nat} {f:List UInt8→Option Value} {l:List (List UInt8×Nat)} {s:List UInt8} {p:Nat} (hn:n≤l.length) (hf: ∀s:List UInt8,f s=(bql l ⟨s.toArray⟩).map fun p:Nat=>Value.int .i64 p) (hno:bql l ⟨s.toArray⟩=none)
  (hm:eqS w' Tryz.prog 9 b (n+1) (fqh f s (.int .i64 p)) sz'):iqW w' b (l++ [(s,p)]):=
 ⟨n+1,_,sz',by simp;omega,hm,fun q=>by
  rw [mq0 p hno]
  unfold fqh
  split
  ·rfl
  exact hf q⟩
theorem MtC.addL {w w':World} {ρ:Nat→Nat} {B xb:Nat} {m:AsM} {U:MtV} {l:List (List UInt8×Nat)} (h:MtC w ρ B xb m U) (hg:w.grownBy w' (some U.lb)) (hl:iqW w' U.lb l):MtC w' ρ B xb { m with labels:=l } U∧Chg [9] w ρ w' ρ:=by
 have hC:Chg [9] w ρ w' ρ:=⟨hg.os,hg.tape,hg.output,hg.size,fun g hg' hr=> ⟨hg.block g hg' (by
  intro e
  injection e with e
  subst e
  exact hr (by rw [h.lc];simp)),rfl⟩⟩
 exact⟨⟨hC.bx h.box (by rw [h.xc];decide),h.xc,hl,h.lc,hC.own h.code (by decide),hC.own h.jumps (by decide),hC.own h.traps (by decide),h.none⟩,hC⟩
theorem gqG:(Tryz.prog.info? 127).map (fun i=> (i.zero,i.size,i.bytes))=some (some (.agg #[.string ⟨#[]⟩, .string ⟨#[]⟩, .string ⟨#[]⟩, .int .i64 0]),4,56):=by kernel_rfl
theorem MtC.addT {w w':World} {ρ:Nat→Nat} {B xb:Nat} {m:AsM} {U:MtV} {x:AsT} {g cap:Nat} (h:MtC w ρ B xb m U) (hlow:Low w ρ B) (hos:w'.os=w.os) (htp:w'.tape=w.tape) (hou:w'.output=w.output) (hsz:w.heap.size≤w'.heap.size)
  (hkeep: ∀q,q<w.heap.size→q≠xb→U.tv.ownBlock≠some q→w'.heap[q]?=w.heap[q]?) (hbox:Bx w' xb ((bqx m U).set 12 (.slice (some ⟨g,0,Option.none⟩) (m.traps.length+1) cap)) 73)
  (hrow:w'.ownsRow B 127 4 (.slice (some ⟨g,0,Option.none⟩) (m.traps.length+1) cap) (m.traps.length+1) (m.traps.flatMap AsT.cells++x.cells)) (hg:U.tv.ownBlock=some g∨w.heap.size≤g):
  ∃(ρ':Nat→Nat) (tv':Value),MtC w' ρ' B xb { m with traps:=m.traps++ [x] } { U with tv:=tv' }∧Chg [8,12] w ρ w' ρ'∧Low w' ρ' B:=by
 have hC:Chg [8,12] w ρ w' (paint ρ g 12):=⟨hos,htp,hou,hsz,fun q hq hr=>by
  refine⟨hkeep q hq (by rintro rfl;exact hr (by rw [h.xc];simp)) (fun e=>hr (by rw [h.traps.2 q e];simp)),aqi ?_⟩
  rintro rfl
  rcases hg with e|e
  ·exact hr (by rw [h.traps.2 _ e];simp)
  omega⟩
 have hgr:ρ g=12∨w.heap.size≤g:=hg.imp (fun e=>h.traps.2 g e) id
 have hxl:=h.box.lt
 have hll:=h.lab.lt
 refine⟨paint ρ g 12, .slice (some ⟨g,0,Option.none⟩) (m.traps.length+1) cap,⟨hbox, ?_,h.lab.keep (hC.blk _ hll (by rw [h.lc];decide)).1, ?_,hC.own h.code (by decide),hC.own h.jumps (by decide),⟨bqq hrow (by simp) (by simp),fun q hq=> ?_⟩,h.none⟩,hC,cqe hlow hsz (hrow.lt g rfl)⟩
 ·rw [aqi]
  ·exact h.xc
  rintro rfl
  rcases hgr with e|e
  ·rw [h.xc] at e;omega
  omega
 ·show paint ρ g 12 U.lb=9
  rw [aqi]
  ·exact h.lc
  rintro rfl
  rcases hgr with e|e
  ·rw [h.lc] at e;omega
  omega
 obtain rfl:g=q:=by simpa [Value.ownBlock] using hq
 exact aqW _ _ _
def AsM.ff (m:AsM):AsM:={ m with first:=false }
theorem eqt {cs:List Nat} {w w':World} {ρ:Nat→Nat} {B kb line:Nat} {p:Option AsK} {e:Ending} (h:cqu cs w ρ B kb line p e w'):(∃σ',p=some σ'∧e= .returned (.tuple #[]))∨(p=none∧e= .panicked [{ v:=cqg line 60,recovered:=false }]):=by
 unfold cqu at h
 cases p with
 |none=>exact .inr ⟨rfl,h.1⟩
 |some σ'=>exact .inl ⟨σ',rfl,h.1⟩
theorem hqH (σ:AsK) (m:AsM) (ws:List ByteArray) (s0:ByteArray) (h0:ws[0]?=some s0):σ.inside m ws=
  if m.first=true∧s0.data.toList= [108,105,109,105,116,115] then(if ws.length=3 then(match((aqz (ws.getD 1 ⟨#[]⟩).data.toList 0 255).bind fun a=> (aqz (ws.getD 2 ⟨#[]⟩).data.toList 0 255).map fun b=> { σ with m:=some { m.ff with mv:={ m.mv with stack:=a,locals:=b } } }:Option AsK) with|none=> .error σ.line|some x=> .ok x) else .error σ.line)
  else if ws.length=1∧s0.data.toList= [101,110,100] then(match σ.endM m.ff with|none=> .error m.line|some x=> .ok x)
  else if ws.length=1∧s0.data.toList.getLastD 0=58 then
   (if s0.data.toList.dropLast≠ []∧s0.data.toList.dropLast.length≤255∧(58:UInt8)∉s0.data.toList.dropLast∧bql m.labels ⟨s0.data.toList.dropLast.toArray⟩=none then .ok { σ with m:=some { m.ff with labels:=m.labels++ [(s0.data.toList.dropLast,m.mv.code.length)] } } else .error σ.line)
  else if s0.data.toList= [116,114,97,112] then
   (if ws.length=4 then .ok { σ with m:=some { m.ff with traps:=m.traps++ [⟨ws.getD 1 ⟨#[]⟩,ws.getD 2 ⟨#[]⟩,ws.getD 3 ⟨#[]⟩,0⟩] } }
    else if ws.length=5 then .ok { (σ.cls (ws.getD 4 ⟨#[]⟩)).2 with m:=some { m.ff with traps:=m.traps++ [⟨ws.getD 1 ⟨#[]⟩,ws.getD 2 ⟨#[]⟩,ws.getD 3 ⟨#[]⟩,(σ.cls (ws.getD 4 ⟨#[]⟩)).1⟩] } }
    else .error σ.line)
  else(match σ.instr m.ff ws with|none=> .error σ.line|some x=> .ok x):=by
 cases ws with
 |nil=>cases h0
 |cons a l=>
  cases h0
  rfl
theorem jq6 (HIN:InstrC) (HEN:EndC) (ρ:Nat→Nat) (B kb xb:Nat) (σ:AsK) (V:MkV) (m:AsM) (U:MtV) (A:Option Addr) (n cap:Nat) (ws:List ByteArray) (w:World) (N:Nat) (h:MkC w ρ B kb σ V) (hV:V.mv= .pointer (some ⟨xb,0,none⟩)) (hm:MtC w ρ B xb m U) (hw:WdA w (Un ρ) A n cap ws) (hz:SmW ws) (hn:0<n) (hne: ∀s∈ws,0<s.size) (hS:cqB σ N) (hMS:eqJ m N) (hN:N≤900000):
  Calls Tryz.prog 24 #[.pointer (some ⟨kb,0,none⟩), .slice A n cap] w (nqC w ρ B kb (σ.inside m ws)):=by
 have H:=Hq h
 have HV:=Hq hV
 have HW:=Hq hw
 have HZ:=Hq hz
 have HLN:=Hq hw.len
 have hle:=hw.le
 have hmx:=hw.max
 obtain⟨b,off,hA,hb,hub,hc⟩:=hw.hat (by omega)
 subst hA
 have HUB:=Hq hub
 have HC:=Hq hc
 obtain⟨s0,hs0⟩: ∃s,ws[0]?=some s:=⟨_,List.getElem?_eq_getElem (by rw [←hw.len];omega)⟩
 have HIE:=Hq (hqH σ m ws s0 hs0)
 rw [←hw.len] at HIE
 have w0:=hc 0 s0 hs0
 rw [Nat.add_zero] at w0
 have z0:=hz s0 (List.mem_of_getElem? hs0)
 have p0:=hne s0 (List.mem_of_getElem? hs0)
 have HTL:=Hq (show s0.toList=s0.data.toList from ByteArray.toList_eq _)
 have hB:=h.hB
 have hkl:=h.box.lt
 have hxl:=hm.box.lt
 have c12:=h.box.cell 12 rfl
 rw [hV] at c12
 have x9:=hm.box.cell 9 rfl
 have zx9:=hm.box.frozen 9
 have xw10:=hm.box.cell 10 rfl
 have hkx: ¬kb=xb:=fun e=>by have h1:=h.kc;rw [e,hm.xc] at h1;omega
 have hxk: ¬xb=kb:=fun e=>hkx e.symm
 have hbx: ¬b=xb:=fun e=>by have h1:=hm.xc;rw [←e,show ρ b=0 from hub] at h1;omega
 have hxb: ¬xb=b:=fun e=>hbx e.symm
 obtain⟨u,hu⟩: ∃u,s0[s0.size - 1]'(by omega)=u:=⟨_,rfl⟩
 have HLU:=Hq (show s0.data.toList.getLastD 0=u by rw [←oqJ s0 p0,hu])
 have hS1:((s0.size:Int) - 1)=((s0.size - 1:Nat):Int):=by omega
 obtain⟨wA,hwA⟩: ∃W,W=w.setCell ⟨xb,9,none⟩ (.bool false):=⟨_,rfl⟩
 have MA:=hm.setc 9 (.bool false) (m':=m.ff) (U':=U) rfl rfl rfl rfl rfl hm.none ⟨rfl,rfl,rfl,rfl⟩
 rw [←hwA] at MA
 have GA:=Hq (MA.2.mono (cs':=lq6) (by decide))
 have KA:=Hq (h.keep MA.2 (h.low.mono (by rw [hwA];simp)) (by intro c h1 h2 hm;simp at hm;omega))
 have WA:=Hq (hw.chg MA.2 (by decide))
 have MA:=Hq MA.1
 have BA:=Hq (GA.out.below h.low hB (by decide))
 have SA:=Hq (eqr hMS)
 have HS:=Hq hS
 have HWA:=Hq hwA
 obtain⟨f,hf⟩: ∃f,m.first=f:=⟨_,rfl⟩
 rw [hf] at x9 HIE
 clear hw hz h hm hc hs0 hub hne hwA hV hf hMS hS
 by_cases hl1:f=true∧s0.data.toList= [108,105,109,105,116,115]
 ·obtain⟨rfl,hl⟩:=hl1
  have HI2:=Hq (HIE.out.trans (if_pos ⟨rfl,hl⟩))
  have e0:(s0.toList== [108,105,109,105,116,115])=true:=by rw [HTL.out,hl];rfl
  clear hl
  by_cases h3:n=3
  ·have h3':((n:Int)==3)=true:=by rw [h3];rfl
   obtain⟨s1,hs1⟩: ∃s,ws[1]?=some s:=⟨_,List.getElem?_eq_getElem (by rw [←HLN.out];omega)⟩
   obtain⟨s2,hs2⟩: ∃s,ws[2]?=some s:=⟨_,List.getElem?_eq_getElem (by rw [←HLN.out];omega)⟩
   have HI3:=Hq (HI2.out.trans (if_pos h3))
   rw [aqE hs1,aqE hs2] at HI3
   have z1:=HZ.out s1 (List.mem_of_getElem? hs1)
   have z2:=HZ.out s2 (List.mem_of_getElem? hs2)
   have HW1:=Hq (HC.out 1 s1 hs1)
   have HW2:=Hq (HC.out 2 s2 hs2)
   have b1:(1:Int) < (n:Int):=by omega
   have b2:(2:Int) < (n:Int):=by omega
   clear hs1 hs2 h3
   go_enter Tryz.func24,Tryz.ntmps24
   go_wp2_with (go_at_call 26;refine aqa ?_)
   refine aqb ?_
   rw [←HWA.out]
   refine(aq0 kb _ σ.line _ KA.out.box rfl).mono ?_
   rintro e wz ⟨rfl,rfl⟩
   go_wp2_with fail
   have y1:=(GA.out.cell0 (by decide) hb HUB.out (off+1)).trans HW1.out
   have y2:=(GA.out.cell0 (by decide) hb HUB.out (off+2)).trans HW2.out
   have HC1:=Hq (fun(W:World) (hb:Below wz.heap.size wz W)=>dqG kb _ σ.line s1 0 255 W (KA.out.below hb).box rfl z1 (by omega))
   go_region_law (first
    | (go_simp;go_at_call 53;go_loud (
       with_reducible refine(HC1.out _ (by repeat' (first|with_reducible exact Below.refl _ _|with_reducible refine below_drewN ?_ _|with_reducible refine Below.drew ?_))).mono ?_
       intro e w5 hq
       rcases eqp hq with⟨hp,rfl,hb5⟩ | ⟨da,hp,rfl,hb5⟩
       (have HN:=Hq (show σ.inside m ws= .error σ.line from HI3.out.trans (by rw [hp];rfl));have B5:=Hq (BA.out.trans ((Below.drew (Below.refl B wz)).trans (hb5.mono (show B≤wz.heap.size from KA.out.hB))));clear hp hb5 hq;exact(show _∧_ from⟨rfl,dqr HN.out B5.out⟩))
       have HD1:=Hq hp
       have G5:=Hq ((GA.out.trans (Chg.of_below (by repeat' (first|with_reducible exact Below.refl _ _|with_reducible refine below_drewN ?_ _|with_reducible refine Below.drew ?_)))).trans (Chg.of_below hb5))
       have K5:=Hq ((KA.out.below (by repeat' (first|with_reducible exact Below.refl _ _|with_reducible refine below_drewN ?_ _|with_reducible refine Below.drew ?_))).below hb5)
       have HC2:=Hq (fun(W:World) (hb:Below w5.heap.size w5 W)=>dqG kb _ σ.line s2 0 255 W (K5.out.below hb).box rfl z2 (by omega))
       have M5:=Hq ((MA.out.below (by repeat' (first|with_reducible exact Below.refl _ _|with_reducible refine below_drewN ?_ _|with_reducible refine Below.drew ?_))).below hb5)
       have y2:=(G5.out.cell0 (by decide) hb HUB.out (off+2)).trans HW2.out
       clear hp hb5 hq))
    | (go_simp;go_at_call 53;go_loud (
       with_reducible refine(HC2.out _ (by repeat' (first|with_reducible exact Below.refl _ _|with_reducible refine below_drewN ?_ _|with_reducible refine Below.drew ?_))).mono ?_
       intro e w6 hq
       rcases eqp hq with⟨hp,rfl,hb6⟩ | ⟨db,hp,rfl,hb6⟩
       (have HN:=Hq (show σ.inside m ws= .error σ.line from HI3.out.trans (by rw [HD1.out,hp];rfl));have B6:=Hq ((G5.out.below H.out.low hB (by decide)).trans (hb6.mono K5.out.hB));clear hp hb6 hq;exact(show _∧_ from⟨rfl,dqr HN.out B6.out⟩))
       have HD2:=Hq hp
       have G6:=Hq (G5.out.trans (Chg.of_below hb6))
       have K6:=Hq (K5.out.below hb6)
       have M6:=Hq (M5.out.below hb6)
       have x4:=M6.out.box.cell 4 rfl
       have zx4:=M6.out.box.frozen 4
       have x5:=M6.out.box.cell 5 rfl
       have zx5:=M6.out.box.frozen 5
       clear hp hb6 hq)))
   all_goals
    go_wp2_with fail
    have M7:=Hq (M6.out.setc 4 (.int .i64 da) (m':={ m.ff with mv:={ m.mv with stack:=da } }) (U':=U) rfl rfl rfl rfl rfl M6.out.none ⟨rfl,rfl,rfl,rfl⟩)
    have M8:=Hq (M7.out.1.setc 5 (.int .i64 db) (m':={ m.ff with mv:={ m.mv with stack:=da,locals:=db } }) (U':=U) rfl rfl rfl rfl rfl M6.out.none ⟨rfl,rfl,rfl,rfl⟩)
    have G8:=Hq (M7.out.2.trans M8.out.2)
    have HF9:=Hq (show σ.inside m ws= .ok { σ with m:=some { m.ff with mv:={ m.mv with stack:=da,locals:=db } } } from HI3.out.trans (by rw [HD1.out,HD2.out];rfl))
    refine⟨rfl, .tuple #[],by simp [results,Tryz.results24], ?_⟩
    exact fqq (V':=V) HF9.out rfl ((K6.out.keep G8.out (K6.out.low.mono G8.out.size) (by intro c h1 h2 hm;simp at hm;omega)).wm _) ⟨xb,U,HV.out,M8.out.1⟩ (G6.out.trans (G8.out.mono (by decide)))
  have h3':((n:Int)==3)=false:=by rw [beq_eq_false_iff_ne];omega
  have HN:=Hq (show σ.inside m ws= .error σ.line from HI2.out.trans (if_neg h3))
  go_enter Tryz.func24,Tryz.ntmps24
  go_wp2_with (go_at_call 26;refine aqa ?_)
  refine aqb ?_
  rw [←HWA.out]
  refine(aqG kb _ σ.line _ KA.out.box rfl).mono ?_
  rintro e wz ⟨rfl,rfl⟩
  go_wp2_with fail
  exact(show _∧_ from⟨rfl,dqr HN.out BA.out⟩)
 have HI2:=Hq (HIE.out.trans (if_neg hl1))
 have e0:f=false∨(f=true∧(s0.toList== [108,105,109,105,116,115])=false):=by
  cases f with
  |false=>exact .inl rfl
  |true=>exact .inr ⟨rfl,by rw [HTL.out];simpa using fun h=>hl1 ⟨rfl,h⟩⟩
 clear hl1
 by_cases hE:n=1∧s0.data.toList= [101,110,100]
 ·have HG9:=Hq (HI2.out.trans (if_pos hE))
  obtain⟨h1,hE⟩:=hE
  have h1':((n:Int)==1)=true:=by rw [h1];rfl
  have e1:(s0.toList== [101,110,100])=true:=by rw [HTL.out,hE];rfl
  clear hE
  rcases e0 with rfl| ⟨rfl,e0⟩
  all_goals
   go_enter Tryz.func24,Tryz.ntmps24
   go_wp2_with (go_at_call 54;refine aqa ?_)
   refine aqb ?_
   rw [←HWA.out]
   refine(HEN ρ B kb xb σ V m.ff U _ N KA.out HV.out MA.out HS.out SA.out hN).mono ?_
   intro e wz hq
   have HQ:=Hq (gqX HG9.out (cqu.weak GA.out BA.out (fun c hc=>hc) hq))
   rcases eqt hq with⟨σ',_,rfl⟩ | ⟨_,rfl⟩
   ·clear hq
    go_wp2_with fail
    refine⟨rfl, .tuple #[],by simp [results,Tryz.results24], ?_⟩
    exact HQ.out
   clear hq
   go_wp2_with fail
   exact(show _∧_ from⟨rfl,HQ.out⟩)
 have HI3:=Hq (HI2.out.trans (if_neg hE))
 have e1:((n:Int)==1)=false∨(((n:Int)==1)=true∧(s0.toList== [101,110,100])=false):=by
  by_cases h1:n=1
  ·exact .inr ⟨by rw [h1];rfl,by rw [HTL.out];simpa using fun h=>hE ⟨h1,h⟩⟩
  exact .inl (by rw [beq_eq_false_iff_ne];omega)
 clear hE
 by_cases hL:n=1∧s0.data.toList.getLastD 0=58
 ·obtain⟨h1,hL⟩:=hL
  have HL2:=Hq (HI3.out.trans (if_pos ⟨h1,hL⟩))
  have h1':((n:Int)==1)=true:=by rw [h1];rfl
  obtain rfl:u=58:=HLU.out.symm.trans hL
  have e1:(s0.toList== [101,110,100])=false:=by
   rcases e1 with e1| ⟨_,e1⟩
   ·rw [h1'] at e1;cases e1
   exact e1
  clear hL
  obtain⟨sl,hsl⟩: ∃sl,s0.extract 0 (s0.size - 1)=sl:=⟨_,rfl⟩
  have HSD:=Hq (show sl.data.toList=s0.data.toList.dropLast by
   rw [←hsl,aqK,List.drop_zero,Nat.sub_zero,List.dropLast_eq_take]
   try congr 1
   try rw [Array.length_toList]
   try rfl)
  rw [←HSD.out] at HL2
  have HLS:=Hq (show sl.data.toList.length=sl.size from Array.length_toList)
  have HLT:=Hq (show sl.toList=sl.data.toList from ByteArray.toList_eq _)
  have hss:sl.size≤maxLen:=by
   have:sl.size≤s0.size:=by rw [←hsl];simp<;>omega
   unfold maxLen;omega
  obtain⟨nl,fl,szl,hnl,hMl,hfl⟩:=MA.out.lab
  have HML:=Hq hMl
  have HFL:=Hq hfl
  have x10:=MA.out.box.cell 10 rfl
  obtain⟨lk,hlk⟩: ∃lk,bql m.labels sl=lk:=⟨_,rfl⟩
  have HLK:=Hq hlk
  have hfs:fl sl.data.toList=lk.map fun p:Nat=>Value.int .i64 p:=by
   rw [hfl,show(⟨sl.data.toList.toArray⟩:ByteArray)=sl from rfl]
   show(bql m.labels sl).map _=_
   rw [hlk]
  obtain⟨CB,hCB⟩: ∃CB,CB=decide (0≤Lib.indexByte sl.data.toList 58):=⟨_,rfl⟩
  have HCB:=Hq hCB
  have HCA:=Hq (fun W=> (show Calls Tryz.prog 55 #[.string sl, .string ⟨#[58]⟩] W fun e w'=>e= .returned (.bool CB)∧w'=W by rw [hCB];exact Tryz.strings_Contains_one sl 58 W))
  clear hMl hfl hlk hCB
  have HIX:=Hq (show CB=false↔(58:UInt8)∉sl.data.toList by
   rw [HCB.out]
   rcases dqR sl.data.toList 58 with⟨h1,h2⟩ | ⟨i,h1,h2,_⟩
   ·rw [h1]
    simp only [List.count_eq_zero] at h2
    exact⟨fun _=>h2,fun _=>rfl⟩
   rw [h1]
   constructor
   ·intro h
    have:=of_decide_eq_false h
    omega
   intro h
   exact absurd (List.count_pos_iff.1 h2) h)
  by_cases hA:sl.data.toList≠ []∧sl.data.toList.length≤255∧(58:UInt8)∉sl.data.toList∧bql m.labels ⟨sl.data.toList.toArray⟩=none
  ·have HG9:=Hq (HL2.out.trans (if_pos hA))
   obtain⟨a1,a2,a3,a4⟩:=hA
   have g1:sl.toList.isEmpty=false:=by rw [HLT.out];simpa using a1
   have g2:(sl.size:Int)≤255:=by rw [HLS.out] at a2;omega
   have g3:CB=false:=HIX.out.2 a3
   subst g3
   have g4:lk=none:=HLK.out.symm.trans a4
   subst g4
   have HA4:=Hq a4
   clear a1 a2 a3 a4
   rcases e0 with rfl| ⟨rfl,e0⟩
   all_goals
    go_enter Tryz.func24,Tryz.ntmps24
    go_wp2_with (first| (go_at_call 55;refine(HCA.out _).mono ?_;rintro e wc ⟨rfl,rfl⟩) | (refine dqw rfl _ _ rfl Tryz.underlying9 Tryz.underlying69 (z:= .int .i64 0) (by kernel_rfl) rfl (HWA.out▸HML.out) rfl hss ?_;rw [hfs]) | (go_at_call 26;refine aqa ?_))
    refine aqb ?_
    rw [←HWA.out]
    refine(aq0 kb _ σ.line _ KA.out.box rfl).mono ?_
    rintro e wz ⟨rfl,rfl⟩
    have y10:=MA.out.box.cell 10 rfl
    have y6:=MA.out.box.cell 6 rfl
    obtain⟨Ac,kc,hcv⟩:=aqf MA.out.code.1
    rw [hcv] at y6
    go_wp2_with fail
    refine cq8 11 (by kernel_rfl) (by kernel_rfl) ?_
    simp only [List.take_succ_cons,List.take_zero,List.drop_succ_cons,List.drop_zero]
    repeat go_big_quiet_step (fail)
    refine wpQuiet_nil ?_
    have hml:m.labels.length≤N:=SA.out.labels
    have hnl':nl≤m.labels.length:=hnl
    go_wp2_with (at_mapUpdate;refine gqO rfl _ _ _ rfl Tryz.underlying9 Tryz.underlying69 rfl (HML.out.keep (w':=wz.drewN 1) rfl) (by unfold maxLen;omega) rfl hss rfl ?_;intro w5 hm5 hg5;refine aqa ?_)
    refine aqb ?_
    have HAL:=Hq (MA.out.addL (w':=w5) ⟨hg5.os,hg5.tape,hg5.output,hg5.size,hg5.block⟩ (nqD hnl HFL.out HA4.out hm5))
    clear hm5 hg5
    go_wp2_with fail
    refine⟨rfl, .tuple #[],by simp [results,Tryz.results24], ?_⟩
    exact fqq (V':=V) HG9.out rfl ((KA.out.keep HAL.out.2 (KA.out.low.mono HAL.out.2.size) (by intro c h1 h2 hm;simp at hm;omega)).wm _) ⟨xb,U,HV.out,HAL.out.1⟩ (GA.out.trans (HAL.out.2.mono (by decide)))
  have HN:=Hq (show σ.inside m ws= .error σ.line from HL2.out.trans (if_neg hA))
  have hbad:sl.toList.isEmpty=true∨(sl.toList.isEmpty=false∧(¬(sl.size:Int)≤255∨((sl.size:Int)≤255∧(CB=true∨(CB=false∧ ∃p,lk=some p))))):=by
   by_cases a1:sl.data.toList= []
   ·left;rw [HLT.out,a1];rfl
   right
   refine⟨by rw [HLT.out];simpa using a1, ?_⟩
   by_cases a2:sl.data.toList.length≤255
   ·right
    refine⟨by rw [HLS.out] at a2;omega, ?_⟩
    cases hcb:CB with
    |true=>exact .inl rfl
    |false=>
     right
     refine⟨rfl, ?_⟩
     cases hq:lk with
     |none=>exact absurd ⟨a1,a2,HIX.out.1 hcb,HLK.out.trans hq⟩ hA
     |some p=>exact⟨p,rfl⟩
   left;rw [HLS.out] at a2;omega
  clear hA
  rcases hbad with g1| ⟨g1,g2| ⟨g2,rfl| ⟨rfl,p,rfl⟩⟩⟩
  all_goals
   rcases e0 with rfl| ⟨rfl,e0⟩
   all_goals
    go_enter Tryz.func24,Tryz.ntmps24
    go_wp2_with (first| (go_at_call 55;refine(HCA.out _).mono ?_;rintro e wc ⟨rfl,rfl⟩) | (refine dqw rfl _ _ rfl Tryz.underlying9 Tryz.underlying69 (z:= .int .i64 0) (by kernel_rfl) rfl (HWA.out▸HML.out) rfl hss ?_;rw [hfs]) | (go_at_call 26;refine aqa ?_))
    refine aqb ?_
    rw [←HWA.out]
    refine(aqG kb _ σ.line _ KA.out.box rfl).mono ?_
    rintro e wz ⟨rfl,rfl⟩
    go_wp2_with fail
    exact(show _∧_ from⟨rfl,dqr HN.out BA.out⟩)
 have HI4:=Hq (HI3.out.trans (if_neg hL))
 have e2:((n:Int)==1)=false∨(((n:Int)==1)=true∧((u.toNat:Int)==58)=false):=by
  by_cases h1:n=1
  ·refine .inr ⟨by rw [h1];rfl, ?_⟩
   rw [beq_eq_false_iff_ne]
   exact fun e=>hL ⟨h1,HLU.out.trans (UInt8.toNat_inj.1 (by rw [show u.toNat=58 by omega];rfl))⟩
  exact .inl (by rw [beq_eq_false_iff_ne];omega)
 by_cases hT:s0.data.toList= [116,114,97,112]
 ·have HI5:=Hq (HI4.out.trans (if_pos hT))
  have e3:(s0.toList== [116,114,97,112])=true:=by rw [HTL.out,hT];rfl
  clear hT hL
  by_cases h4:n=4
  ·have h4':((n:Int)==4)=true:=by rw [h4];rfl
   have h1f:((n:Int)==1)=false:=by rw [h4];rfl
   have h5f:((n:Int)==5)=false:=by rw [h4];rfl
   obtain⟨s1,hs1⟩: ∃s,ws[1]?=some s:=⟨_,List.getElem?_eq_getElem (by rw [←HLN.out];omega)⟩
   obtain⟨s2,hs2⟩: ∃s,ws[2]?=some s:=⟨_,List.getElem?_eq_getElem (by rw [←HLN.out];omega)⟩
   obtain⟨s3,hs3⟩: ∃s,ws[3]?=some s:=⟨_,List.getElem?_eq_getElem (by rw [←HLN.out];omega)⟩
   have HG9:=Hq (HI5.out.trans (if_pos h4))
   rw [aqE hs1,aqE hs2,aqE hs3] at HG9
   have HW1:=Hq (HC.out 1 s1 hs1)
   have HW2:=Hq (HC.out 2 s2 hs2)
   have HW3:=Hq (HC.out 3 s3 hs3)
   have b1:(1:Int) < (n:Int):=by omega
   have b2:(2:Int) < (n:Int):=by omega
   have b3:(3:Int) < (n:Int):=by omega
   clear hs1 hs2 hs3 h4 e1 e2
   rcases e0 with rfl| ⟨rfl,e0⟩
   all_goals
    go_enter Tryz.func24,Tryz.ntmps24
    go_wp2_with (go_at_call 26;refine aqa ?_)
    refine aqb ?_
    rw [←HWA.out]
    refine(aq0 kb _ σ.line _ KA.out.box rfl).mono ?_
    rintro e wz ⟨rfl,rfl⟩
    go_wp2_with fail
    have y1:=(GA.out.cell0 (by decide) hb HUB.out (off+1)).trans HW1.out
    have y2:=(GA.out.cell0 (by decide) hb HUB.out (off+2)).trans HW2.out
    have y3:=(GA.out.cell0 (by decide) hb HUB.out (off+3)).trans HW3.out
    have hbz:b<wz.heap.size:=Nat.lt_of_lt_of_le hb GA.out.size
    obtain⟨v1,v2,v3,v4,v5,v6,v7,v8,v9,v10,v11,v12⟩:=far b wz.heap.size hbz
    go_region_held2 (fun w'=>w'.cell? ⟨b,off+1,none⟩=some (.string s1)∧w'.cell? ⟨b,off+2,none⟩=some (.string s2)∧w'.cell? ⟨b,off+3,none⟩=some (.string s3)) (go_keep) (fail)
    obtain⟨wT,hwT⟩: ∃W,W=(wz.alloc (.cells #[.string s1, .string s2, .string s3, .int .i64 0] 127)).drew:=⟨_,rfl⟩
    rw [←hwT]
    have BT:=Hq (show Below wz.heap.size wz wT by rw [hwT];exact((Below.refl _ _).alloc (Nat.le_refl _) _).drew)
    have XT:=Hq (show Bx wT wz.heap.size [.string s1, .string s2, .string s3, .int .i64 0] 127 by rw [hwT];exact aqo wz _ _)
    have KT:=Hq (KA.out.below BT.out)
    have MT:=Hq (MA.out.below BT.out)
    have GT:=Hq (GA.out.trans (Chg.of_below BT.out))
    have RT:=Hq (KA.out.low.fresh (Nat.le_refl wz.heap.size))
    have hwl:w.heap.size≤wz.heap.size:=GA.out.size
    clear hwT y1 y2 y3
    have a0:=XT.out.cell 0 rfl
    have a1:=XT.out.cell 1 rfl
    have a2:=XT.out.cell 2 rfl
    have a3:=XT.out.cell 3 rfl
    have x12:=MT.out.box.cell 12 rfl
    have zx12:=MT.out.box.frozen 12
    have hxw:=MT.out.box.lt
    have htw:=XT.out.lt
    have hBw:=KT.out.hB
    have hlt:m.ff.traps.length≤900000:=Nat.le_trans SA.out.traps hN
    have hnx:U.tv.ownBlock≠some xb:=fun e=>by have h1:=MT.out.traps.2 _ e;rw [MT.out.xc] at h1;omega
    obtain⟨r1,r2,r3,r4,r5,r6,r7,r8,r9,r10,r11,r12⟩:=far xb wT.heap.size hxw
    obtain⟨q1,q2,q3,q4,q5,q6,q7,q8,q9,q10,q11,q12⟩:=far wz.heap.size wT.heap.size htw
    go_wp2_with fail
    go_region_law (first
     | (refine aqt rfl (.tmp 166) (.tmp 168) 71 rfl Tryz.underlying71 gqG rfl (by omega) B rfl ((aqp MT.out.traps.1 (fun _ _=>rfl)).alloc _) rfl rfl (aqd _ _ _ _ (by first|rfl|omega| (simp<;>omega))) (by simp [Value.oneCell']) (by omega) (by simp only [maxLen];omega) (by omega) (by first|omega| (simp<;>omega)) ?_
        intro g6 cap6 W' ho hg hb hgg
        have HO6:=Hq ho
        have HG6:=Hq hg
        have X6:=Hq (show Bx W' xb (bqx m.ff U) 73 from(hg.block xb (by first|omega| (simp;omega)) (fun e=>hnx e.symm)).trans ((Below.heap_alloc _ _ _ (by first|omega| (simp;omega))).trans MT.out.box))
        have c6:=X6.out.cell 12 rfl
        have z6:=X6.out.frozen 12
        have HGG:=Hq hgg
        clear ho hg hb hgg))
    all_goals
     go_wp2_with fail
     have hg6:U.tv.ownBlock=some g6∨wT.heap.size≤g6:=by
      rcases HGG.out with e|e
      ·exact .inl e
      right
      first|omega| (simp at e;omega)
     have hgx:g6≠xb:=by
      rintro rfl
      rcases hg6 with e|e
      ·exact hnx e
      omega
     have hz6':wT.heap.size+1≤W'.heap.size:=Nat.le_trans (Nat.le_of_eq (World.size_alloc wT _).symm) HG6.out.size
     obtain⟨ρ5,tv5,hM,hC5,hL5⟩:=MT.out.addT (x:=⟨s1,s2,s3,0⟩) (w':=W'.setCell ⟨xb,12,none⟩ (.slice (some ⟨g6,0,none⟩) (m.ff.traps.length+1) cap6)) (g:=g6) (cap:=cap6) KT.out.low HG6.out.os HG6.out.tape HG6.out.output (by first|omega| (simp;omega))
      (fun q hq h1 h2=> (Below.heap_setCell _ _ _ _ h1).trans ((HG6.out.block q (by first|omega| (simp;omega)) (fun e=>h2 e.symm)).trans (Below.heap_alloc _ _ _ (by first|omega| (simp;omega)))))
      (X6.out.set 12 _) (aqY HO6.out hgx _) hg6
     refine⟨rfl, .tuple #[],by simp [results,Tryz.results24], ?_⟩
     exact fqq (V':=V) HG9.out rfl ((KT.out.keep hC5 hL5 (by intro c h1 h2 hm;simp at hm;omega)).wm _) ⟨xb,{ U with tv:=tv5 },HV.out,hM⟩ (GT.out.trans (hC5.mono (by decide)))
  by_cases h5:n=5
  ·have h4f:((n:Int)==4)=false:=by rw [h5];rfl
   have h1f:((n:Int)==1)=false:=by rw [h5];rfl
   have h5':((n:Int)==5)=true:=by rw [h5];rfl
   obtain⟨s4,hs4⟩: ∃s,ws[4]?=some s:=⟨_,List.getElem?_eq_getElem (by rw [←HLN.out];omega)⟩
   obtain⟨s1,hs1⟩: ∃s,ws[1]?=some s:=⟨_,List.getElem?_eq_getElem (by rw [←HLN.out];omega)⟩
   obtain⟨s2,hs2⟩: ∃s,ws[2]?=some s:=⟨_,List.getElem?_eq_getElem (by rw [←HLN.out];omega)⟩
   obtain⟨s3,hs3⟩: ∃s,ws[3]?=some s:=⟨_,List.getElem?_eq_getElem (by rw [←HLN.out];omega)⟩
   have HG9:=Hq ((HI5.out.trans (if_neg h4)).trans (if_pos h5))
   rw [aqE hs1,aqE hs2,aqE hs3,aqE hs4] at HG9
   have z4:=HZ.out s4 (List.mem_of_getElem? hs4)
   have HW4:=Hq (HC.out 4 s4 hs4)
   have b4:(4:Int) < (n:Int):=by omega
   have HW1:=Hq (HC.out 1 s1 hs1)
   have HW2:=Hq (HC.out 2 s2 hs2)
   have HW3:=Hq (HC.out 3 s3 hs3)
   have b1:(1:Int) < (n:Int):=by omega
   have b2:(2:Int) < (n:Int):=by omega
   have b3:(3:Int) < (n:Int):=by omega
   clear hs1 hs2 hs3 hs4 h4 h5 e1 e2
   rcases e0 with rfl| ⟨rfl,e0⟩
   all_goals
    go_enter Tryz.func24,Tryz.ntmps24
    go_wp2_with (go_at_call 26;refine aqa ?_)
    refine aqb ?_
    rw [←HWA.out]
    refine(aq0 kb _ σ.line _ KA.out.box rfl).mono ?_
    rintro e wz ⟨rfl,rfl⟩
    go_wp2_with fail
    have y1:=(GA.out.cell0 (by decide) hb HUB.out (off+1)).trans HW1.out
    have y2:=(GA.out.cell0 (by decide) hb HUB.out (off+2)).trans HW2.out
    have y3:=(GA.out.cell0 (by decide) hb HUB.out (off+3)).trans HW3.out
    have hbz:b<wz.heap.size:=Nat.lt_of_lt_of_le hb GA.out.size
    obtain⟨v1,v2,v3,v4,v5,v6,v7,v8,v9,v10,v11,v12⟩:=far b wz.heap.size hbz
    go_region_held2 (fun w'=>w'.cell? ⟨b,off+1,none⟩=some (.string s1)∧w'.cell? ⟨b,off+2,none⟩=some (.string s2)∧w'.cell? ⟨b,off+3,none⟩=some (.string s3)) (go_keep) (fail)
    obtain⟨wT,hwT⟩: ∃W,W=(wz.alloc (.cells #[.string s1, .string s2, .string s3, .int .i64 0] 127)).drew:=⟨_,rfl⟩
    rw [←hwT]
    have BT:=Hq (show Below wz.heap.size wz wT by rw [hwT];exact((Below.refl _ _).alloc (Nat.le_refl _) _).drew)
    have XT:=Hq (show Bx wT wz.heap.size [.string s1, .string s2, .string s3, .int .i64 0] 127 by rw [hwT];exact aqo wz _ _)
    have KT:=Hq (KA.out.below BT.out)
    have MT:=Hq (MA.out.below BT.out)
    have GT:=Hq (GA.out.trans (Chg.of_below BT.out))
    have RT:=Hq (KA.out.low.fresh (Nat.le_refl wz.heap.size))
    have hwl:w.heap.size≤wz.heap.size:=GA.out.size
    clear hwT y1 y2 y3
    have y4:=(GT.out.cell0 (by decide) hb HUB.out (off+4)).trans HW4.out
    have hpl:σ.c.pool.length≤900000:=Nat.le_trans HS.out.npool hN
    go_wp2_with (go_at_call 56;refine aqa ?_)
    refine aqb ?_
    refine(cq3 ρ B kb σ V s4 _ KT.out z4 (by omega)).mono ?_
    rintro e w3 ⟨rfl,ρ3,pv3,hm,hg⟩
    have K3:=Hq hm
    have M3:=Hq (MT.out.keep hg (by intro c h1 h2 hm;simp at hm;omega))
    have G3:=Hq (GT.out.trans (hg.mono (by decide)))
    have X3:=Hq (hg.bx XT.out (by rw [RT.out];decide))
    have R3:=Hq ((hg.blk wz.heap.size XT.out.lt (by rw [RT.out];decide)).2.trans RT.out)
    clear hm hg y4
    have t3:=X3.out.cell 3 rfl
    have zt3:=X3.out.frozen 3
    go_wp2_with fail
    obtain⟨wS,hwS⟩: ∃W,W=w3.setCell ⟨wz.heap.size,3,none⟩ (.int .i64 (σ.cls s4).1):=⟨_,rfl⟩
    rw [←hwS]
    have KS:=Hq (show MkC wS ρ3 B kb (σ.cls s4).2 { V with pv:=pv3 } by rw [hwS];exact K3.out.free R3.out _)
    have MS:=Hq (show MtC wS ρ3 B xb m.ff U by rw [hwS];exact M3.out.free R3.out _)
    have GS:=Hq (show Chg lq6 w ρ wS ρ3 by rw [hwS];exact G3.out.fresh hwl _)
    have XS:=Hq (show Bx wS wz.heap.size ([Value.string s1, .string s2, .string s3, .int .i64 0].set 3 (.int .i64 (σ.cls s4).1)) 127 by rw [hwS];exact X3.out.set 3 _)
    clear hwS t3 zt3
    have a0:=XS.out.cell 0 rfl
    have a1:=XS.out.cell 1 rfl
    have a2:=XS.out.cell 2 rfl
    have a3:=XS.out.cell 3 rfl
    have x12:=MS.out.box.cell 12 rfl
    have zx12:=MS.out.box.frozen 12
    have hxw:=MS.out.box.lt
    have htw:=XS.out.lt
    have hBw:=KS.out.hB
    have hlt:m.ff.traps.length≤900000:=Nat.le_trans SA.out.traps hN
    have hnx:U.tv.ownBlock≠some xb:=fun e=>by have h1:=MS.out.traps.2 _ e;rw [MS.out.xc] at h1;omega
    obtain⟨r1,r2,r3,r4,r5,r6,r7,r8,r9,r10,r11,r12⟩:=far xb wS.heap.size hxw
    obtain⟨q1,q2,q3,q4,q5,q6,q7,q8,q9,q10,q11,q12⟩:=far wz.heap.size wS.heap.size htw
    go_region_law (first
     | (refine aqt rfl (.tmp 166) (.tmp 168) 71 rfl Tryz.underlying71 gqG rfl (by omega) B rfl ((aqp MS.out.traps.1 (fun _ _=>rfl)).alloc _) rfl rfl (aqd _ _ _ _ (by first|rfl|omega| (simp<;>omega))) (by simp [Value.oneCell']) (by omega) (by simp only [maxLen];omega) (by omega) (by first|omega| (simp<;>omega)) ?_
        intro g6 cap6 W' ho hg hb hgg
        have HO6:=Hq ho
        have HG6:=Hq hg
        have X6:=Hq (show Bx W' xb (bqx m.ff U) 73 from(hg.block xb (by first|omega| (simp;omega)) (fun e=>hnx e.symm)).trans ((Below.heap_alloc _ _ _ (by first|omega| (simp;omega))).trans MS.out.box))
        have c6:=X6.out.cell 12 rfl
        have z6:=X6.out.frozen 12
        have HGG:=Hq hgg
        clear ho hg hb hgg))
    all_goals
     go_wp2_with fail
     have hg6:U.tv.ownBlock=some g6∨wS.heap.size≤g6:=by
      rcases HGG.out with e|e
      ·exact .inl e
      right
      first|omega| (simp at e;omega)
     have hgx:g6≠xb:=by
      rintro rfl
      rcases hg6 with e|e
      ·exact hnx e
      omega
     have hz6':wS.heap.size+1≤W'.heap.size:=Nat.le_trans (Nat.le_of_eq (World.size_alloc wS _).symm) HG6.out.size
     obtain⟨ρ5,tv5,hM,hC5,hL5⟩:=MS.out.addT (x:=⟨s1,s2,s3,(σ.cls s4).1⟩) (w':=W'.setCell ⟨xb,12,none⟩ (.slice (some ⟨g6,0,none⟩) (m.ff.traps.length+1) cap6)) (g:=g6) (cap:=cap6) KS.out.low HG6.out.os HG6.out.tape HG6.out.output (by first|omega| (simp;omega))
      (fun q hq h1 h2=> (Below.heap_setCell _ _ _ _ h1).trans ((HG6.out.block q (by first|omega| (simp;omega)) (fun e=>h2 e.symm)).trans (Below.heap_alloc _ _ _ (by first|omega| (simp;omega)))))
      (X6.out.set 12 _) (aqY HO6.out hgx _) hg6
     refine⟨rfl, .tuple #[],by simp [results,Tryz.results24], ?_⟩
     exact fqq (V':={ V with pv:=pv3 }) HG9.out rfl ((KS.out.keep hC5 hL5 (by intro c h1 h2 hm;simp at hm;omega)).wm _) ⟨xb,{ U with tv:=tv5 },HV.out,hM⟩ (GS.out.trans (hC5.mono (by decide)))
  have HN:=Hq (show σ.inside m ws= .error σ.line from(HI5.out.trans (if_neg h4)).trans (if_neg h5))
  have h4f:((n:Int)==4)=false:=by rw [beq_eq_false_iff_ne];omega
  have h5f:((n:Int)==5)=false:=by rw [beq_eq_false_iff_ne];omega
  rcases e2 with e2| ⟨e2,e2'⟩
  ·rcases e0 with rfl| ⟨rfl,e0⟩
   all_goals
    go_enter Tryz.func24,Tryz.ntmps24
    go_wp2_with (go_at_call 26;refine aqa ?_)
    refine aqb ?_
    rw [←HWA.out]
    refine(aqG kb _ σ.line _ KA.out.box rfl).mono ?_
    rintro e wz ⟨rfl,rfl⟩
    go_wp2_with fail
    exact(show _∧_ from⟨rfl,dqr HN.out BA.out⟩)
  rcases e1 with e1| ⟨_,e1⟩
  ·rw [e2] at e1
   cases e1
  rcases e0 with rfl| ⟨rfl,e0⟩
  all_goals
   go_enter Tryz.func24,Tryz.ntmps24
   go_wp2_with (go_at_call 26;refine aqa ?_)
   refine aqb ?_
   rw [←HWA.out]
   refine(aqG kb _ σ.line _ KA.out.box rfl).mono ?_
   rintro e wz ⟨rfl,rfl⟩
   go_wp2_with fail
   exact(show _∧_ from⟨rfl,dqr HN.out BA.out⟩)
 have HG9:=Hq (HI4.out.trans (if_neg hT))
 have e3:(s0.toList== [116,114,97,112])=false:=by rw [HTL.out];simpa using hT
 clear hT
 clear hL
 rcases e2 with e2| ⟨e2,e2'⟩
 ·rcases e0 with rfl| ⟨rfl,e0⟩
  all_goals
   go_enter Tryz.func24,Tryz.ntmps24
   go_wp2_with (go_at_call 57;refine aqa ?_)
   refine aqb ?_
   rw [←HWA.out]
   refine(HIN ρ B kb xb σ V m.ff U _ n cap ws _ N KA.out HV.out MA.out WA.out HZ.out hn HS.out SA.out hN).mono ?_
   intro e wz hq
   have HQ:=Hq (gqX HG9.out (cqu.weak GA.out BA.out (fun c hc=>hc) hq))
   rcases eqt hq with⟨σ',_,rfl⟩ | ⟨_,rfl⟩
   ·clear hq
    go_wp2_with fail
    refine⟨rfl, .tuple #[],by simp [results,Tryz.results24], ?_⟩
    exact HQ.out
   clear hq
   go_wp2_with fail
   exact(show _∧_ from⟨rfl,HQ.out⟩)
 rcases e1 with e1| ⟨_,e1⟩
 ·rw [e2] at e1
  cases e1
 rcases e0 with rfl| ⟨rfl,e0⟩
 all_goals
  go_enter Tryz.func24,Tryz.ntmps24
  go_wp2_with (go_at_call 57;refine aqa ?_)
  refine aqb ?_
  rw [←HWA.out]
  refine(HIN ρ B kb xb σ V m.ff U _ n cap ws _ N KA.out HV.out MA.out WA.out HZ.out hn HS.out SA.out hN).mono ?_
  intro e wz hq
  have HQ:=Hq (gqX HG9.out (cqu.weak GA.out BA.out (fun c hc=>hc) hq))
  rcases eqt hq with⟨σ',_,rfl⟩ | ⟨_,rfl⟩
  ·clear hq
   go_wp2_with fail
   refine⟨rfl, .tuple #[],by simp [results,Tryz.results24], ?_⟩
   exact HQ.out
  clear hq
  go_wp2_with fail
  exact(show _∧_ from⟨rfl,HQ.out⟩)
end Go.Proofs.YtlcidkiplidamaaGreatDoor
