/-
  What the laws rest on, part 17: walks of the program's functions and plain laws. Conditions: none but those that each theorem names.
-/
import Derived.Test.YtlcidkiplidamaaGreatDoorB00
import Derived.Test.YtlcidkiplidamaaGreatDoorB16
import Derived.Test.YtlcidkiplidamaaGreatDoorB03
import Derived.WalkMore
set_option linter.unusedSimpArgs false
set_option linter.unusedVariables false
set_option maxRecDepth 100000
set_option maxHeartbeats 1000000
namespace Go.Proofs.YtlcidkiplidamaaGreatDoor
open Go Go.RowKit Lib Go.Maps
theorem MkC.setc {w:World} {ρ:Nat→Nat} {B kb:Nat} {σ σ':AsK} {V V':MkV} (h:MkC w ρ B kb σ V) (j:Nat) (u:Value) (hc:(bqw σ V).set j u=bqw σ' V') (hp:σ'.c.pool=σ.c.pool) (hi:σ'.c.ifs=σ.c.ifs) (hf:σ'.c.flds=σ.c.flds) (hm:σ'.c.mths=σ.c.mths)
  (hV:V'.pv=V.pv∧V'.iv=V.iv∧V'.fv=V.fv∧V'.tv=V.tv∧V'.mb=V.mb):MkC (w.setCell ⟨kb,j,none⟩ u) ρ B kb σ' V'∧Chg [1] w ρ (w.setCell ⟨kb,j,none⟩ u) ρ:=by
 have hC:Chg [1] w ρ (w.setCell ⟨kb,j,none⟩ u) ρ:=⟨rfl,rfl,rfl,by simp,fun g hg hr=> ⟨Below.heap_setCell _ _ _ _ (by rintro rfl;exact hr (by rw [h.kc];simp)),rfl⟩⟩
 obtain⟨v1,v2,v3,v4,v5⟩:=hV
 refine⟨⟨h.low.mono (by simp),by simpa using h.hB, ?_,h.kc, ?_, ?_, ?_, ?_, ?_, ?_⟩,hC⟩
 ·rw [←hc]
  exact h.box.set j u
 ·rw [v5,hp]
  exact h.map.keep (hC.blk _ h.map.lt (by rw [h.mc];decide)).1
 ·rw [v5]
  exact h.mc
 ·rw [v1,hp]
  exact hC.own h.pool (by decide)
 ·rw [v2,hi]
  exact hC.own h.ifs (by decide)
 ·rw [v3,hf]
  exact hC.own h.flds (by decide)
 rw [v4,hm]
 exact hC.mths h.mths (by decide) (by decide)
theorem gqS {w w':World} {ρ:Nat→Nat} {kb c g:Nat} {v:Value} (hos:w'.os=w.os) (htp:w'.tape=w.tape) (hou:w'.output=w.output) (hsz:w.heap.size≤w'.heap.size) (hk:ρ kb=1) (hv: ∀g,v.ownBlock=some g→ρ g=c)
  (hkeep: ∀q,q<w.heap.size→q≠kb→v.ownBlock≠some q→w'.heap[q]?=w.heap[q]?) (hg:v.ownBlock=some g∨w.heap.size≤g):Chg [1,c] w ρ w' (paint ρ g c):=
 ⟨hos,htp,hou,hsz,fun q hq hr=>by
  refine⟨hkeep q hq (by rintro rfl;exact hr (by rw [hk];simp)) (fun e=>hr (by rw [hv q e];simp)),aqi ?_⟩
  rintro rfl
  rcases hg with e|e
  ·exact hr (by rw [hv _ e];simp)
  omega⟩
theorem cqe {w w':World} {ρ:Nat→Nat} {B g c:Nat} (h:Low w ρ B) (hsz:w.heap.size≤w'.heap.size) (hg:B≤g∧g<w'.heap.size):Low w' (paint ρ g c) B:=by
 intro q hq
 by_cases e:q=g
 ·subst e;exact hg
 rw [aqi e] at hq
 have:=h q hq
 omega
theorem MkC.addF {w w':World} {ρ:Nat→Nat} {B kb:Nat} {σ:AsK} {V:MkV} {x:aqB} {g cap:Nat} (h:MkC w ρ B kb σ V) (hos:w'.os=w.os) (htp:w'.tape=w.tape) (hou:w'.output=w.output) (hsz:w.heap.size≤w'.heap.size)
  (hkeep: ∀q,q<w.heap.size→q≠kb→V.fv.ownBlock≠some q→w'.heap[q]?=w.heap[q]?) (hbox:Bx w' kb ((bqw σ V).set 7 (.slice (some ⟨g,0,none⟩) (σ.c.flds.length+1) cap)) 67)
  (hrow:w'.ownsRow B 83 4 (.slice (some ⟨g,0,none⟩) (σ.c.flds.length+1) cap) (σ.c.flds.length+1) (σ.c.flds.flatMap aqB.cells++x.cells)) (hg:V.fv.ownBlock=some g∨w.heap.size≤g):
  ∃(ρ':Nat→Nat) (fv':Value),MkC w' ρ' B kb { σ with c:={ σ.c with flds:=σ.c.flds++ [x] } } { V with fv:=fv' }∧Chg [1,5] w ρ w' ρ':=by
 have hC:=gqS (c:=5) hos htp hou hsz h.kc h.flds.2 hkeep hg
 have hgr:ρ g=5∨w.heap.size≤g:=hg.imp (fun e=>h.flds.2 g e) id
 have hkl:=h.box.lt
 have hml:=h.map.lt
 refine⟨paint ρ g 5, .slice (some ⟨g,0,none⟩) (σ.c.flds.length+1) cap,⟨cqe h.low hsz (hrow.lt g rfl),Nat.le_trans h.hB hsz,hbox, ?_,h.map.keep (hC.blk _ hml (by rw [h.mc];decide)).1, ?_,hC.own h.pool (by decide),hC.own h.ifs (by decide),⟨bqq hrow (by simp) (by simp),fun q hq=> ?_⟩,hC.mths h.mths (by decide) (by decide)⟩,hC⟩
 ·rw [aqi]
  ·exact h.kc
  rintro rfl
  rcases hgr with e|e
  ·rw [h.kc] at e;omega
  omega
 ·show paint ρ g 5 V.mb=2
  rw [aqi]
  ·exact h.mc
  rintro rfl
  rcases hgr with e|e
  ·rw [h.mc] at e;omega
  omega
 obtain rfl:g=q:=by simpa [Value.ownBlock] using hq
 exact aqW _ _ _
theorem MkC.addI {w w':World} {ρ:Nat→Nat} {B kb:Nat} {σ:AsK} {V:MkV} {x:Int} {g cap:Nat} (h:MkC w ρ B kb σ V) (hos:w'.os=w.os) (htp:w'.tape=w.tape) (hou:w'.output=w.output) (hsz:w.heap.size≤w'.heap.size)
  (hkeep: ∀q,q<w.heap.size→q≠kb→V.iv.ownBlock≠some q→w'.heap[q]?=w.heap[q]?) (hbox:Bx w' kb ((bqw σ V).set 6 (.slice (some ⟨g,0,none⟩) (σ.c.ifs.length+1) cap)) 67)
  (hrow:w'.ownsRow B 3 1 (.slice (some ⟨g,0,none⟩) (σ.c.ifs.length+1) cap) (σ.c.ifs.length+1) (σ.c.ifs.map (Value.int .i64)++ [.int .i64 x])) (hg:V.iv.ownBlock=some g∨w.heap.size≤g):
  ∃(ρ':Nat→Nat) (iv':Value),MkC w' ρ' B kb { σ with c:={ σ.c with ifs:=σ.c.ifs++ [x] } } { V with iv:=iv' }∧Chg [1,4] w ρ w' ρ':=by
 have hC:=gqS (c:=4) hos htp hou hsz h.kc h.ifs.2 hkeep hg
 have hgr:ρ g=4∨w.heap.size≤g:=hg.imp (fun e=>h.ifs.2 g e) id
 have hkl:=h.box.lt
 have hml:=h.map.lt
 refine⟨paint ρ g 4, .slice (some ⟨g,0,none⟩) (σ.c.ifs.length+1) cap,⟨cqe h.low hsz (hrow.lt g rfl),Nat.le_trans h.hB hsz,hbox, ?_,h.map.keep (hC.blk _ hml (by rw [h.mc];decide)).1, ?_,hC.own h.pool (by decide),⟨bqq hrow (by simp) (by simp),fun q hq=> ?_⟩,hC.own h.flds (by decide),hC.mths h.mths (by decide) (by decide)⟩,hC⟩
 ·rw [aqi]
  ·exact h.kc
  rintro rfl
  rcases hgr with e|e
  ·rw [h.kc] at e;omega
  omega
 ·show paint ρ g 4 V.mb=2
  rw [aqi]
  ·exact h.mc
  rintro rfl
  rcases hgr with e|e
  ·rw [h.mc] at e;omega
  omega
 obtain rfl:g=q:=by simpa [Value.ownBlock] using hq
 exact aqW _ _ _
end Go.Proofs.YtlcidkiplidamaaGreatDoor
namespace Go.Proofs.YtlcidkiplidamaaGreatDoor
open Go Go.RowKit Lib
theorem cqU {w:List UInt8} {lo hi v:Int} (h:aqz w lo hi=some v):lo≤v∧v≤hi:=by
 unfold aqz at h
 simp only at h
 repeat' split at h
 all_goals first
  | (cases h;assumption)
  |cases h
def SmW (w:List ByteArray):Prop:= ∀x∈w,x.size≤65536
theorem SmW.at {w:List ByteArray} (h:SmW w) (i:Nat):(w.getD i ⟨#[]⟩).size≤65536:=by
 rw [List.getD_eq_getElem?_getD]
 cases e:w[i]? with
 |none=>show(0:Nat)≤_;omega
 |some x=>exact h x (List.mem_of_getElem? e)
theorem SmW.head {w:List ByteArray} (h:SmW w):(w.headD ⟨#[]⟩).size≤65536:=by
 cases w with
 |nil=>show(0:Nat)≤_;omega
 |cons x l=>exact h x (by simp)
theorem SmW.drop {w:List ByteArray} (h:SmW w) (n:Nat):SmW (w.drop n):=fun x hx=>h x (List.mem_of_mem_drop hx)
theorem dqX {σ:AsK} {N:Nat} (h:cqB σ N) (hN:N≤1000000):cqB σ.object (N+2):=by
 unfold AsK.object
 split
 ·have h1:=cqt (s:=bqg) h (by show(16:Nat)≤_;omega) hN
  exact⟨h1.1.npool,h1.1.nifs,h1.1.nflds,h1.1.nmths,h1.1.pool,h1.1.this,aqV (by omega),h1.1.ifs,h1.1.flds,h1.1.mths,by simp,h1.1.op⟩
 exact h.mono (by omega)
theorem iqk {σ σ':AsK} {N:Nat} {w:List ByteArray} (h:cqB σ N) (hN:N≤1000000) (hw:SmW w) (he:σ.field w=some σ'):cqB σ' (N+5):=by
 unfold AsK.field at he
 simp only at he
 split at he
 ·cases he
 rename_i acc hacc
 split at he
 ·cases he
 rename_i v hv
 have h1:=bqV h (hw.at 1)
 have h2:=bqV h1.1 (hw.at 2)
 split at he
 ·rename_i hval
  rw [if_pos hval] at hv
  have h3:=dqW h2.1 (cqU hv)
  have h4:=bqV (s:=aq7) h3.1 (by show(13:Nat)≤_;omega)
  cases he
  refine⟨h4.1.mono (by omega) |>.npool,h4.1.mono (N':=N+5) (by omega) |>.nifs, ?_,h4.1.mono (N':=N+5) (by omega) |>.nmths,h4.1.pool,h4.1.this,h4.1.sup,h4.1.ifs, ?_,(h4.1.mono (N':=N+5) (by omega)).mths,h4.1.part,(h4.1.mono (N':=N+5) (by omega)).op⟩
  ·have:=h.nflds
   show(σ.c.flds++_).length≤N+5
   simp;omega
  intro x hx
  rcases List.mem_append.1 hx with hx|hx
  ·exact h.flds x hx
  obtain rfl:=List.mem_singleton.1 hx
  exact⟨aqV (by omega),aqV (by omega),aqV (by omega)⟩
 cases he
 refine⟨h2.1.mono (by omega) |>.npool,h2.1.mono (N':=N+5) (by omega) |>.nifs, ?_,h2.1.mono (N':=N+5) (by omega) |>.nmths,h2.1.pool,h2.1.this,h2.1.sup,h2.1.ifs, ?_,(h2.1.mono (N':=N+5) (by omega)).mths,h2.1.part,(h2.1.mono (N':=N+5) (by omega)).op⟩
 ·have:=h.nflds
  show(σ.c.flds++_).length≤N+5
  simp;omega
 intro x hx
 rcases List.mem_append.1 hx with hx|hx
 ·exact h.flds x hx
 obtain rfl:=List.mem_singleton.1 hx
 exact⟨aqV (by omega),aqV (by omega),aqV (n:=0) (by omega)⟩
theorem iql {σ σ':AsK} {N:Nat} {w:List ByteArray} (h:cqB σ N) (hN:N≤1000000) (hw:SmW w) (he:σ.begin w=some σ'):cqB σ' (N+5):=by
 unfold AsK.begin at he
 simp only at he
 split at he
 ·cases he
 rename_i acc hacc
 have h1:=bqV h (hw.at 1)
 have h2:=bqV h1.1 (hw.at 2)
 split at he
 ·cases he
  refine⟨h2.1.mono (by omega) |>.npool,h2.1.mono (N':=N+5) (by omega) |>.nifs,h2.1.mono (N':=N+5) (by omega) |>.nflds, ?_,h2.1.pool,h2.1.this,h2.1.sup,h2.1.ifs,h2.1.flds, ?_,h2.1.part,(h2.1.mono (N':=N+5) (by omega)).op⟩
  ·have:=h.nmths
   show(σ.c.mths++_).length≤N+5
   simp;omega
  intro x hx
  rcases List.mem_append.1 hx with hx|hx
  ·exact(h.mono (N':=N+5) (by omega)).mths x hx
  obtain rfl:=List.mem_singleton.1 hx
  exact⟨⟨aqV (by omega),aqV (by omega),aqV (n:=0) (by omega),aqV (n:=0) (by omega),by simp⟩,by simp,by simp⟩
 have h3:=bqV (s:=hqS) h2.1 (by show(4:Nat)≤_;omega)
 cases he
 have hk:=cqT (w.getD 2 ⟨#[]⟩)
 refine⟨h3.1.mono (by omega) |>.npool,h3.1.mono (N':=N+5) (by omega) |>.nifs,h3.1.mono (N':=N+5) (by omega) |>.nflds,h3.1.mono (N':=N+5) (by omega) |>.nmths,h3.1.pool,h3.1.this,h3.1.sup,h3.1.ifs,h3.1.flds,(h3.1.mono (N':=N+5) (by omega)).mths,h3.1.part, ?_⟩
 intro m hm
 cases hm
 exact⟨by simp,by simp,by simp,by simp,by simp,by simp,by simp,rfl,⟨aqV (by omega),aqV (by omega),aqV (n:=8) (by omega),by refine⟨?_, ?_⟩ <;> (simp only;omega),by simp⟩⟩
theorem gqT {σ σ':AsK} {N:Nat} {w:List ByteArray} (h:cqB σ N) (hN:N≤900000) (hw:SmW w) (he:σ.outside w=some σ'):cqB σ' (N+8):=by
 unfold AsK.outside at he
 simp only at he
 split at he
 ·split at he
  ·split at he
   ·cases he
   have h1:=cqt h (hw.at 1) (by omega)
   cases he
   exact⟨(h1.1.mono (N':=N+8) (by omega)).npool,(h1.1.mono (N':=N+8) (by omega)).nifs,(h1.1.mono (N':=N+8) (by omega)).nflds,(h1.1.mono (N':=N+8) (by omega)).nmths,h1.1.pool,aqV (by omega),h1.1.sup,h1.1.ifs,h1.1.flds,(h1.1.mono (N':=N+8) (by omega)).mths,by simp,(h1.1.mono (N':=N+8) (by omega)).op⟩
  cases he
 split at he
 ·split at he
  ·have h1:=cqt h (hw.at 1) (by omega)
   cases he
   exact⟨(h1.1.mono (N':=N+8) (by omega)).npool,(h1.1.mono (N':=N+8) (by omega)).nifs,(h1.1.mono (N':=N+8) (by omega)).nflds,(h1.1.mono (N':=N+8) (by omega)).nmths,h1.1.pool,h1.1.this,aqV (by omega),h1.1.ifs,h1.1.flds,(h1.1.mono (N':=N+8) (by omega)).mths,by simp,(h1.1.mono (N':=N+8) (by omega)).op⟩
  cases he
 have h0:=dqX h (by omega)
 split at he
 ·split at he
  ·have h1:=cqt h0 (hw.at 1) (by omega)
   cases he
   refine⟨(h1.1.mono (N':=N+8) (by omega)).npool, ?_,(h1.1.mono (N':=N+8) (by omega)).nflds,(h1.1.mono (N':=N+8) (by omega)).nmths,h1.1.pool,h1.1.this,h1.1.sup, ?_,h1.1.flds,(h1.1.mono (N':=N+8) (by omega)).mths,by simp,(h1.1.mono (N':=N+8) (by omega)).op⟩
   ·have:=h1.1.nifs
    simp only [List.length_append,List.length_cons,List.length_nil]
    omega
   intro x hx
   rcases List.mem_append.1 hx with hx|hx
   ·exact h1.1.ifs x hx
   obtain rfl:=List.mem_singleton.1 hx
   exact aqV (by omega)
  cases he
 split at he
 ·split at he
  ·refine(iqk (σ:={ σ.object with part:=4 }) (N:=N+2) ⟨h0.npool,h0.nifs,h0.nflds,h0.nmths,h0.pool,h0.this,h0.sup,h0.ifs,h0.flds,h0.mths,by simp,h0.op⟩ (by omega) hw he).mono (by omega)
  cases he
 split at he
 ·split at he
  ·refine(iql (σ:={ σ.object with part:=5 }) (N:=N+2) ⟨h0.npool,h0.nifs,h0.nflds,h0.nmths,h0.pool,h0.this,h0.sup,h0.ifs,h0.flds,h0.mths,by simp,h0.op⟩ (by omega) hw he).mono (by omega)
  cases he
 cases he
end Go.Proofs.YtlcidkiplidamaaGreatDoor
namespace Go.Proofs.YtlcidkiplidamaaGreatDoor
open Go Go.RowKit Lib Go.Maps
theorem dqF {P:Program} {w:World} {ops:Array Oper} {rest:List Oper} {o:Oper} {a:Act} {Q:Exit→Act→World→Prop} {k e t:TypeId} {b n sz:Nat} {f:List UInt8→Option Value} (hg:o.guard=none) (m x v:Operand) (hop:o.op=Op.insert t m x v) (hk:P.underlying k=some .string) (ht:P.underlying t=some (.map k e))
  (hm:a.eval m= .map (some b)) (h:eqS w P k b n f sz) (hn:n<maxLen) {s:ByteArray} (hx:a.eval x= .string s) (hs:s.size≤maxLen) {u:Value} (hv:a.eval v=u)
  (hK: ∀w',eqS w' P k b (n+1) (fqh f s.data.toList u) (if(f s.data.toList).isSome then sz else sz+1)→w.grownBy w' (some b)→wpList P ops Q rest (a.put o.dst undef) w'):wpList P ops Q (o::rest) a w:=by
 obtain⟨D,hown,hsz,hat,hh⟩:=h
 have ht':=hown.tidy (string_keyed hk)
 obtain⟨w',hrun,hw,hgr⟩:=hown.update (string_keyed hk) ht hn (Go.WideMaps.keyOf_string_mk hk hs) (val:=u) (d:= .held u) (ps:= []) rfl
 refine wpList_plain hg fun K' hK'=> ?_
 unfold Oper.wp
 simp [execOp,hop,hm,hx,hv,hrun,Result.andThen]
 refine hK' _ _ (hK w' ⟨_,hw, ?_, ?_, ?_⟩ hgr)
 ·rw [size_put ht',hh,hsz]
 ·intro s' z
  unfold fqh
  by_cases hs':s'=s.data.toList
  ·subst hs'
   rw [atKey_put_same ht'.isMap (by simp [WideAt.IsKeyLit]),if_pos rfl]
   rfl
  rw [atKey_put_other (gqg hs'),if_neg hs',hat]
 intro s'
 unfold fqh
 by_cases hs':s'=s.data.toList
 ·subst hs'
  rw [has_put_same ht'.isMap (by simp [WideAt.IsKeyLit]),if_pos rfl]
  rfl
 rw [has_put_other (gqg hs'),if_neg hs',hh]
def oqv:List UInt8→Option Value:=(fqh (fqh (fqh (fqh (fqh (fqh (fqh (fqh (fqh (fun _=>none) [112,117,98,108,105,99] (.int .i64 0)) [112,114,105,118,97,116,101] (.int .i64 1)) [112,114,111,116,101,99,116,101,100] (.int .i64 2)) [115,116,97,116,105,99] (.int .i64 3)) [102,105,110,97,108] (.int .i64 4)) [115,117,112,101,114] (.int .i64 5)) [110,97,116,105,118,101] (.int .i64 8)) [105,110,116,101,114,102,97,99,101] (.int .i64 9)) [97,98,115,116,114,97,99,116] (.int .i64 10))
theorem mq1 (l:List UInt8):oqv l=(cqP.find? fun r=>r.1==l).map fun r=>Value.int .i64 (r.2:Int):=by
 unfold oqv fqh
 by_cases h10:l= [97,98,115,116,114,97,99,116]
 ·subst h10;rfl
 rw [if_neg h10]
 by_cases h9:l= [105,110,116,101,114,102,97,99,101]
 ·subst h9;rfl
 rw [if_neg h9]
 by_cases h8:l= [110,97,116,105,118,101]
 ·subst h8;rfl
 rw [if_neg h8]
 by_cases h5:l= [115,117,112,101,114]
 ·subst h5;rfl
 rw [if_neg h5]
 by_cases h4:l= [102,105,110,97,108]
 ·subst h4;rfl
 rw [if_neg h4]
 by_cases h3:l= [115,116,97,116,105,99]
 ·subst h3;rfl
 rw [if_neg h3]
 by_cases h2:l= [112,114,111,116,101,99,116,101,100]
 ·subst h2;rfl
 rw [if_neg h2]
 by_cases h1:l= [112,114,105,118,97,116,101]
 ·subst h1;rfl
 rw [if_neg h1]
 by_cases h0:l= [112,117,98,108,105,99]
 ·subst h0;rfl
 rw [if_neg h0]
 have:cqP.find? (fun r=>r.1==l)=none:=by
  rw [List.find?_eq_none]
  intro r hr
  simp only [cqP,List.mem_cons,List.not_mem_nil,or_false] at hr
  rcases hr with rfl|rfl|rfl|rfl|rfl|rfl|rfl|rfl|rfl
  ·simpa using fun e=>h0 e.symm
  ·simpa using fun e=>h1 e.symm
  ·simpa using fun e=>h2 e.symm
  ·simpa using fun e=>h3 e.symm
  ·simpa using fun e=>h4 e.symm
  ·simpa using fun e=>h5 e.symm
  ·simpa using fun e=>h8 e.symm
  ·simpa using fun e=>h9 e.symm
  simpa using fun e=>h10 e.symm
 rw [this]
 rfl
theorem mq2 (l:List UInt8):cqw l=((cqP.find? fun r=>r.1==l).map fun r=>2^r.2).getD 0:=by
 unfold cqw
 cases cqP.find? (fun r=>r.1==l) <;>rfl
theorem mq3 (s:ByteArray) (w:World) (hs:s.size≤maxLen):
  Calls Tryz.prog 135 #[.string s] w fun e w'=>e= .returned (.int .i64 (cqw s.data.toList))∧Below w.heap.size w w':=by
 have HS:=Hq hs
 clear hs
 have hmm:= @run_makeMap Tryz.prog
 have HM0:=Hq (eqy w Tryz.prog 9)
 have HB0:=Hq ((Below.refl w.heap.size w).alloc (Nat.le_refl _) (.map #[] 0))
 go_enter Tryz.func135,Tryz.ntmps135
 go_wp2_with (refine dqF rfl _ _ _ rfl Tryz.underlying9 Tryz.underlying69 rfl HM0.out (by decide) rfl (by decide) rfl ?_;refine aqa ?_)
 refine aqb ?_
 intro w1 hm hg
 have HM1:=Hq hm
 have HB1:=Hq (HB0.out.grown hg (by have:=HB0.out.size;simp) (fun k hk=>by cases hk;exact Nat.le_refl _))
 clear hm hg HM0 HB0
 go_wp2_with (refine dqF rfl _ _ _ rfl Tryz.underlying9 Tryz.underlying69 rfl HM1.out (by decide) rfl (by decide) rfl ?_;refine aqa ?_)
 refine aqb ?_
 intro w2 hm hg
 have HM2:=Hq hm
 have HB2:=Hq (HB1.out.grown hg (by have:=HB1.out.size;omega) (fun k hk=>by cases hk;exact Nat.le_refl _))
 clear hm hg HM1 HB1
 go_wp2_with (refine dqF rfl _ _ _ rfl Tryz.underlying9 Tryz.underlying69 rfl HM2.out (by decide) rfl (by decide) rfl ?_;refine aqa ?_)
 refine aqb ?_
 intro w3 hm hg
 have HM3:=Hq hm
 have HB3:=Hq (HB2.out.grown hg (by have:=HB2.out.size;omega) (fun k hk=>by cases hk;exact Nat.le_refl _))
 clear hm hg HM2 HB2
 go_wp2_with (refine dqF rfl _ _ _ rfl Tryz.underlying9 Tryz.underlying69 rfl HM3.out (by decide) rfl (by decide) rfl ?_;refine aqa ?_)
 refine aqb ?_
 intro w4 hm hg
 have HM4:=Hq hm
 have HB4:=Hq (HB3.out.grown hg (by have:=HB3.out.size;omega) (fun k hk=>by cases hk;exact Nat.le_refl _))
 clear hm hg HM3 HB3
 go_wp2_with (refine dqF rfl _ _ _ rfl Tryz.underlying9 Tryz.underlying69 rfl HM4.out (by decide) rfl (by decide) rfl ?_;refine aqa ?_)
 refine aqb ?_
 intro w5 hm hg
 have HM5:=Hq hm
 have HB5:=Hq (HB4.out.grown hg (by have:=HB4.out.size;omega) (fun k hk=>by cases hk;exact Nat.le_refl _))
 clear hm hg HM4 HB4
 go_wp2_with (refine dqF rfl _ _ _ rfl Tryz.underlying9 Tryz.underlying69 rfl HM5.out (by decide) rfl (by decide) rfl ?_;refine aqa ?_)
 refine aqb ?_
 intro w6 hm hg
 have HM6:=Hq hm
 have HB6:=Hq (HB5.out.grown hg (by have:=HB5.out.size;omega) (fun k hk=>by cases hk;exact Nat.le_refl _))
 clear hm hg HM5 HB5
 go_wp2_with (refine dqF rfl _ _ _ rfl Tryz.underlying9 Tryz.underlying69 rfl HM6.out (by decide) rfl (by decide) rfl ?_;refine aqa ?_)
 refine aqb ?_
 intro w7 hm hg
 have HM7:=Hq hm
 have HB7:=Hq (HB6.out.grown hg (by have:=HB6.out.size;omega) (fun k hk=>by cases hk;exact Nat.le_refl _))
 clear hm hg HM6 HB6
 go_wp2_with (refine dqF rfl _ _ _ rfl Tryz.underlying9 Tryz.underlying69 rfl HM7.out (by decide) rfl (by decide) rfl ?_;refine aqa ?_)
 refine aqb ?_
 intro w8 hm hg
 have HM8:=Hq hm
 have HB8:=Hq (HB7.out.grown hg (by have:=HB7.out.size;omega) (fun k hk=>by cases hk;exact Nat.le_refl _))
 clear hm hg HM7 HB7
 go_wp2_with (refine dqF rfl _ _ _ rfl Tryz.underlying9 Tryz.underlying69 rfl HM8.out (by decide) rfl (by decide) rfl ?_;refine aqa ?_)
 refine aqb ?_
 intro w9 hm hg
 have HM9:=Hq hm
 have HB9:=Hq (HB8.out.grown hg (by have:=HB8.out.size;omega) (fun k hk=>by cases hk;exact Nat.le_refl _))
 clear hm hg HM8 HB8
 have hf:=mq1 s.data.toList
 unfold oqv at hf
 obtain⟨q,hq⟩: ∃q,cqP.find? (fun r=>r.1==s.data.toList)=q:=⟨_,rfl⟩
 rw [hq] at hf
 have HF:=Hq hf
 clear hf
 go_wp2_with (refine dqw rfl _ _ rfl Tryz.underlying9 Tryz.underlying69 (z:= .int .i64 0) (by kernel_rfl) rfl HM9.out rfl HS.out ?_;refine aqa ?_)
 refine aqb ?_
 rw [HF.out]
 have hfa:=mq2 s.data.toList
 rw [hq] at hfa
 have HFA:=Hq hfa
 clear hfa
 cases q with
 |none=>
  clear hq
  go_wp2_with fail
  go_ret
  exact⟨by rw [HFA.out];rfl,HB9.out⟩
 |some r=>
  have hm:=List.mem_of_find?_eq_some hq
  clear hq HF
  simp only [cqP,List.mem_cons,List.not_mem_nil,or_false] at hm
  rcases hm with rfl|rfl|rfl|rfl|rfl|rfl|rfl|rfl|rfl
  all_goals
   go_wp2_with fail
   go_ret
   exact⟨by rw [HFA.out];rfl,HB9.out⟩
structure WdA (w:World) (ok:Nat→Prop) (A:Option Addr) (n cap:Nat) (ws:List ByteArray):Prop where
 len:n=ws.length
 le:n≤cap
 max:cap≤9223372036854775807
 hat:0<n→ ∃b off,A=some ⟨b,off,none⟩∧b<w.heap.size∧ok b∧ ∀(j:Nat) s,ws[j]?=some s→w.cell? ⟨b,off+j,none⟩=some (.string s)
theorem gqU (l:List UInt8):cqw l<2048:=by
 unfold cqw
 split
 ·rename_i r hr
  have hm:=List.mem_of_find?_eq_some hr
  have hall: ∀r∈cqP,2^r.2<2048:=by decide
  exact hall r hm
 omega
theorem gqA {ws:List ByteArray} {k acc:Nat} {s:ByteArray} (h:ws[k]?=some s):aqS (ws.drop k) acc=if cqw s.data.toList≠0∧acc&&&cqw s.data.toList=0 then aqS (ws.drop (k+1)) (acc|||cqw s.data.toList) else none:=by
 have hlt:=(List.getElem?_eq_some_iff.1 h).1
 rw [List.drop_eq_getElem_cons hlt,(List.getElem?_eq_some_iff.1 h).2,aqS]
def mq4 (w:World) (n:Nat) (p:Option Nat) (e:Ending) (w':World):Prop:=Below w.heap.size w w'∧match p with|some acc=>e= .returned (.int .i64 acc) |none=>e=eqK n
theorem gqB {w w':World} {n:Nat} {p:Option Nat} (hp:p=none) (hb:Below w.heap.size w w'):mq4 w n p (eqK n) w':=by
 subst hp
 exact⟨hb,rfl⟩
theorem jqO {w w':World} {n acc:Nat} {p:Option Nat} {e:Ending} (hp:p=some acc) (he:e= .returned (.int .i64 acc)) (hb:Below w.heap.size w w'):mq4 w n p e w':=by
 subst hp
 exact⟨hb,he⟩
theorem bq6 (kb:Nat) (vs:List Value) (n:Nat) (ok:Nat→Prop) (A:Option Addr) (len cap:Nat) (ws:List ByteArray) (w:World) (hb:Bx w kb vs 67) (hn:vs[11]?=some (.int .i64 n)) (hw:WdA w ok A len cap ws) (hz:SmW ws):
  Calls Tryz.prog 58 #[.pointer (some ⟨kb,0,none⟩), .slice A len cap] w (mq4 w n (aqS ws 0)):=by
 have HX:=Hq hb
 have HW:=Hq hw
 have HZ:=Hq hz
 have HLN:=Hq hw.len
 have hle:=hw.le
 have hmx:=hw.max
 have hkl:=hb.lt
 clear hb hw hz
 go_enter Tryz.func58,Tryz.ntmps58
 go_wp2_with fail
 go_loopw [5,7,8,11] (fun all _ _ i wr=> ∃(k acc:Nat),k≤len∧i= .int .i64 k∧all= .int .i64 acc∧acc<2048∧Hid (aqS ws 0=aqS (ws.drop k) acc)∧Hid (Below w.heap.size w wr)) (fun _ _ _ i _=>len - (RowKit.intOf i).toNat)
 case atStart=>exact⟨0,0,by omega,rfl,rfl,by omega,Hq rfl,Hq (Below.refl _ _)⟩
 case round=>
  obtain⟨k,acc,hk,rfl,rfl,hacc,HA,HB⟩:=hrel
  by_cases hlt:k<len
  ·obtain⟨s,hs⟩: ∃s,ws[k]?=some s:=⟨_,List.getElem?_eq_getElem (by have:=HLN.out;omega)⟩
   obtain⟨b,off,hA,hbl,_,hc⟩:=HW.out.hat (by omega)
   subst hA
   have c0:=(HB.out.cell (p:=⟨b,off+k,none⟩) hbl).trans (hc k s hs)
   clear hc
   have HST:=Hq (HA.out.trans (gqA hs))
   have hss:s.size≤maxLen:=by have:=HZ.out s (List.mem_of_getElem? hs);unfold maxLen;omega
   have hfl:=gqU s.data.toList
   have HFA:=Hq (fun W=>mq3 s W hss)
   obtain⟨f,hf⟩: ∃f,cqw s.data.toList=f:=⟨_,rfl⟩
   rw [hf] at HST hfl HFA
   clear hs hf hss
   have q0:=cqk acc f (by omega) (by omega)
   have q1:=jql acc f (by omega) (by omega)
   by_cases h0:f=0
   ·subst h0
    have HN:=Hq (HST.out.trans (if_neg (by simp)))
    go_wp2_with (first| (go_at_call 135;refine(HFA.out _).mono ?_;rintro e w1 ⟨rfl,hb1⟩;have B1:=Hq (HB.out.trans (hb1.mono HB.out.size));clear hb1) | (go_at_call 26;refine aqa ?_))
    refine aqb ?_
    refine(aqG kb vs n _ (HX.out.below B1.out hkl) hn).mono ?_
    rintro e w2 ⟨rfl,rfl⟩
    go_wp2_with fail
    exact(show _∧_ from⟨rfl,gqB HN.out B1.out⟩)
   have h0':((f:Int) !=0)=true:=by simpa using h0
   by_cases h1:acc&&&f=0
   ·have h1':(((acc&&&f:Nat):Int)==0)=true:=by rw [h1];rfl
    have HN:=Hq (HST.out.trans (if_pos ⟨h0,h1⟩))
    go_wp2_with (first| (go_at_call 135;refine(HFA.out _).mono ?_;rintro e w1 ⟨rfl,hb1⟩;have B1:=Hq (HB.out.trans (hb1.mono HB.out.size));clear hb1) | (go_at_call 26;refine aqa ?_))
    refine aqb ?_
    refine(aq0 kb vs n _ (HX.out.below B1.out hkl) hn).mono ?_
    rintro e w2 ⟨rfl,rfl⟩
    go_wp2_with fail
    go_roundw
    case rel=>exact⟨k+1,acc|||f,by omega,by go_num,rfl,Nat.or_lt_two_pow (n:=11) hacc hfl,HN,B1⟩
    case measure=>simp [RowKit.intOf];omega
   have h1':(((acc&&&f:Nat):Int)==0)=false:=by rw [beq_eq_false_iff_ne];omega
   have HN:=Hq (HST.out.trans (if_neg (fun h=>h1 h.2)))
   go_wp2_with (first| (go_at_call 135;refine(HFA.out _).mono ?_;rintro e w1 ⟨rfl,hb1⟩;have B1:=Hq (HB.out.trans (hb1.mono HB.out.size));clear hb1) | (go_at_call 26;refine aqa ?_))
   refine aqb ?_
   refine(aqG kb vs n _ (HX.out.below B1.out hkl) hn).mono ?_
   rintro e w2 ⟨rfl,rfl⟩
   go_wp2_with fail
   exact(show _∧_ from⟨rfl,gqB HN.out B1.out⟩)
  obtain rfl:k=len:=by omega
  have HN:=Hq (show aqS ws 0=some acc by rw [HA.out,HLN.out,List.drop_length,aqS])
  go_wp2_with fail
  go_ret
  exact jqO HN.out rfl HB.out
end Go.Proofs.YtlcidkiplidamaaGreatDoor
