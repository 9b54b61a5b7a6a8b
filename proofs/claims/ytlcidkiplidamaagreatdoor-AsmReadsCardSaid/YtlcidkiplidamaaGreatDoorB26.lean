/-
  What the laws rest on, part 26: walks of the program's functions and plain laws. Conditions: none but those that each theorem names.
-/
import Derived.Test.YtlcidkiplidamaaGreatDoorB00
import Derived.Test.YtlcidkiplidamaaGreatDoorB16
import Derived.Test.YtlcidkiplidamaaGreatDoorB17
import Derived.Test.YtlcidkiplidamaaGreatDoorB20
import Derived.Test.YtlcidkiplidamaaGreatDoorB04
import Derived.BigQuiet
import Derived.Deep.QuietTactic
set_option linter.unusedSimpArgs false
set_option linter.unusedVariables false
set_option maxRecDepth 100000
set_option maxHeartbeats 1000000
namespace Go.Proofs.YtlcidkiplidamaaGreatDoor
open Go Go.RowKit Lib Go.Maps
structure RkV where
 pv:Value
 iv:Value
 fv:Value
 tv:Value
def bq8 (p:Nat):Int:=if p≤2 then p else 3
def aq3 (σ:AsK) (V:RkV):List Value:= [.int .i64 σ.c.minor, .int .i64 σ.c.major,V.pv, .int .i64 σ.c.acc, .int .i64 σ.c.this, .int .i64 σ.c.sup,V.iv,V.fv,V.tv, .int .i64 (bq8 σ.part), .bool σ.m.isSome]
structure RkC (w:World) (ρ:Nat→Nat) (B kb:Nat) (σ:AsK) (V:RkV) (t:List Value):Prop where
 low:Low w ρ B
 hB:B≤w.heap.size
 box:Bx w kb (aq3 σ V++t) 80
 ht:t.length=13
 kc:ρ kb=1
 pool:eqo w ρ B 33 5 V.pv σ.c.pool.length (σ.c.pool.flatMap Ko.cells) 3
 ifs:eqo w ρ B 3 1 V.iv σ.c.ifs.length (σ.c.ifs.map (Value.int .i64)) 4
 flds:eqo w ρ B 83 4 V.fv σ.c.flds.length (σ.c.flds.flatMap aqB.cells) 5
 mths:mqZ w ρ B V.tv σ.c.mths
theorem RkC.keep {cs:List Nat} {w w':World} {ρ ρ':Nat→Nat} {B kb:Nat} {σ:AsK} {V:RkV} {t:List Value} (h:RkC w ρ B kb σ V t) (k:Chg cs w ρ w' ρ') (hl:Low w' ρ' B) (hc: ∀c,1≤c→c≤7→c∉cs):RkC w' ρ' B kb σ V t where
 low:=hl
 hB:=Nat.le_trans h.hB k.size
 box:=k.bx h.box (by rw [h.kc];exact hc 1 (by omega) (by omega))
 ht:=h.ht
 kc:=(k.blk kb h.box.lt (by rw [h.kc];exact hc 1 (by omega) (by omega))).2.trans h.kc
 pool:=k.own h.pool (hc 3 (by omega) (by omega))
 ifs:=k.own h.ifs (hc 4 (by omega) (by omega))
 flds:=k.own h.flds (hc 5 (by omega) (by omega))
 mths:=k.mths h.mths (hc 6 (by omega) (by omega)) (hc 7 (by omega) (by omega))
theorem RkC.below {w w':World} {ρ:Nat→Nat} {B kb:Nat} {σ:AsK} {V:RkV} {t:List Value} (h:RkC w ρ B kb σ V t) (hb:Below w.heap.size w w'):RkC w' ρ B kb σ V t:=
 h.keep (Chg.of_below (cs:= []) hb) (h.low.mono hb.size) (by simp)
structure RtV where
 cv:Value
 lv:Value
 jv:Value
 tv:Value
def aq4 (m:AsM) (U:RtV):List Value:= [.bool m.first, .int .i64 m.line, .int .i64 m.mv.acc, .int .i64 m.mv.name, .int .i64 m.mv.desc, .bool m.mv.has, .int .i64 m.mv.stack, .int .i64 m.mv.locals,U.cv, .slice none 0 0,U.lv,U.jv,U.tv]
def dqI (l:List UInt8×Nat):List Value:= [.string ⟨l.1.toArray⟩, .int .i64 l.2]
def AsF.rcells (j:AsF):List Value:= [.int .i64 j.fr, .int .i64 j.at', .string j.lab]
structure RtC (w:World) (ρ:Nat→Nat) (B:Nat) (m:AsM) (U:RtV):Prop where
 code:eqo w ρ B 5 1 U.cv m.mv.code.length (m.mv.code.map bV) 10
 labs:eqo w ρ B 186 2 U.lv m.labels.length (m.labels.flatMap dqI) 9
 jumps:eqo w ρ B 132 3 U.jv m.jumps.length (m.jumps.flatMap AsF.rcells) 11
 traps:eqo w ρ B 136 4 U.tv m.traps.length (m.traps.flatMap AsT.cells) 12
 none:m.mv.traps= []
theorem RtC.keep {cs:List Nat} {w w':World} {ρ ρ':Nat→Nat} {B:Nat} {m:AsM} {U:RtV} (h:RtC w ρ B m U) (k:Chg cs w ρ w' ρ') (hc: ∀c,9≤c→c≤12→c∉cs):RtC w' ρ' B m U where
 code:=k.own h.code (hc 10 (by omega) (by omega))
 labs:=k.own h.labs (hc 9 (by omega) (by omega))
 jumps:=k.own h.jumps (hc 11 (by omega) (by omega))
 traps:=k.own h.traps (hc 12 (by omega) (by omega))
 none:=h.none
theorem RtC.below {w w':World} {ρ:Nat→Nat} {B:Nat} {m:AsM} {U:RtV} (h:RtC w ρ B m U) (hb:Below w.heap.size w w'):RtC w' ρ B m U:=h.keep (Chg.of_below (cs:= []) hb) (by simp)
theorem RkC.setc {w:World} {ρ:Nat→Nat} {B kb:Nat} {σ σ':AsK} {V V':RkV} {t t':List Value} (h:RkC w ρ B kb σ V t) (j:Nat) (u:Value) (hc:(aq3 σ V++t).set j u=aq3 σ' V'++t') (hp:σ'.c.pool=σ.c.pool) (hi:σ'.c.ifs=σ.c.ifs) (hf:σ'.c.flds=σ.c.flds) (hm:σ'.c.mths=σ.c.mths)
  (hV:V'=V):RkC (w.setCell ⟨kb,j,none⟩ u) ρ B kb σ' V' t'∧Chg [1] w ρ (w.setCell ⟨kb,j,none⟩ u) ρ:=by
 have hC:Chg [1] w ρ (w.setCell ⟨kb,j,none⟩ u) ρ:=⟨rfl,rfl,rfl,by simp,fun g hg hr=> ⟨Below.heap_setCell _ _ _ _ (by rintro rfl;exact hr (by rw [h.kc];simp)),rfl⟩⟩
 subst hV
 refine⟨⟨h.low.mono (by simp),by simpa using h.hB, ?_, ?_,h.kc, ?_, ?_, ?_, ?_⟩,hC⟩
 ·rw [←hc]
  exact h.box.set j u
 ·have:=congrArg List.length hc
  simp [aq3,h.ht] at this
  omega
 ·rw [hp]
  exact hC.own h.pool (by decide)
 ·rw [hi]
  exact hC.own h.ifs (by decide)
 ·rw [hf]
  exact hC.own h.flds (by decide)
 rw [hm]
 exact hC.mths h.mths (by decide) (by decide)
theorem RkC.addR {w w':World} {ρ:Nat→Nat} {B kb j g cap n c size:Nat} {σ:AsK} {V:RkV} {t:List Value} {e:TypeId} {xs:List Value} {v:Value} (h:RkC w ρ B kb σ V t)
  (hos:w'.os=w.os) (htp:w'.tape=w.tape) (hou:w'.output=w.output) (hsz:w.heap.size≤w'.heap.size) (hv: ∀g,v.ownBlock=some g→ρ g=c)
  (hkeep: ∀q,q<w.heap.size→q≠kb→v.ownBlock≠some q→w'.heap[q]?=w.heap[q]?) (hbox:Bx w' kb ((aq3 σ V++t).set j (.slice (some ⟨g,0,none⟩) n cap)) 80)
  (hrow:w'.ownsRow B e size (.slice (some ⟨g,0,none⟩) n cap) n xs) (hg:v.ownBlock=some g∨w.heap.size≤g) (hc:c≠1):
  Chg [1,c] w ρ w' (paint ρ g c)∧Low w' (paint ρ g c) B∧paint ρ g c kb=1∧eqo w' (paint ρ g c) B e size (.slice (some ⟨g,0,none⟩) n cap) n xs c:=by
 have hC:=gqS (c:=c) hos htp hou hsz h.kc hv hkeep hg
 have hgr:ρ g=c∨w.heap.size≤g:=hg.imp (fun e=>hv g e) id
 have hkl:=h.box.lt
 refine⟨hC,cqe h.low hsz (hrow.lt g rfl), ?_,hrow,fun q hq=> ?_⟩
 ·rw [aqi]
  ·exact h.kc
  rintro rfl
  rcases hgr with e|e
  ·exact hc (e.symm.trans h.kc)
  omega
 obtain rfl:g=q:=by simpa [Value.ownBlock] using hq
 exact aqW _ _ _
theorem RkC.turn {cs:List Nat} {w w':World} {ρ ρ':Nat→Nat} {B kb:Nat} {σ σ':AsK} {V:RkV} {t t':List Value} (h:RkC w ρ B kb σ V t) (k:Chg cs w ρ w' ρ') (hl:Low w' ρ' B) (hk:ρ' kb=1) (hbox:Bx w' kb (aq3 σ' V++t') 80) (ht:t'.length=13)
  (hp:σ'.c.pool=σ.c.pool) (hi:σ'.c.ifs=σ.c.ifs) (hf:σ'.c.flds=σ.c.flds) (hm:σ'.c.mths=σ.c.mths) (hc: ∀c,3≤c→c≤7→c∉cs):RkC w' ρ' B kb σ' V t' where
 low:=hl
 hB:=Nat.le_trans h.hB k.size
 box:=hbox
 ht:=ht
 kc:=hk
 pool:=by rw [hp];exact k.own h.pool (hc 3 (by omega) (by omega))
 ifs:=by rw [hi];exact k.own h.ifs (hc 4 (by omega) (by omega))
 flds:=by rw [hf];exact k.own h.flds (hc 5 (by omega) (by omega))
 mths:=by rw [hm];exact k.mths h.mths (hc 6 (by omega) (by omega)) (hc 7 (by omega) (by omega))
section
variable {w w':World} {ρ:Nat→Nat} {B kb g cap:Nat} {σ:AsK} {V:RkV} {t:List Value} (h:RkC w ρ B kb σ V t) (hos:w'.os=w.os) (htp:w'.tape=w.tape) (hou:w'.output=w.output) (hsz:w.heap.size≤w'.heap.size)
include h hos htp hou hsz
theorem RkC.addP {k:Ko} (hkeep: ∀q,q<w.heap.size→q≠kb→V.pv.ownBlock≠some q→w'.heap[q]?=w.heap[q]?) (hbox:Bx w' kb ((aq3 σ V++t).set 2 (.slice (some ⟨g,0,none⟩) (σ.c.pool.length+1) cap)) 80)
  (hrow:w'.ownsRow B 33 5 (.slice (some ⟨g,0,none⟩) (σ.c.pool.length+1) cap) (σ.c.pool.length+1) (σ.c.pool.flatMap Ko.cells++k.cells)) (hg:V.pv.ownBlock=some g∨w.heap.size≤g):
  ∃(ρ':Nat→Nat) (pv':Value),RkC w' ρ' B kb { σ with c:={ σ.c with pool:=σ.c.pool++ [k] } } { V with pv:=pv' } t∧Chg [1,3] w ρ w' ρ':=by
 obtain⟨hC,hl,hk,ho⟩:=h.addR hos htp hou hsz h.pool.2 hkeep hbox hrow hg (by decide)
 exact⟨paint ρ g 3, .slice (some ⟨g,0,none⟩) (σ.c.pool.length+1) cap,⟨hl,Nat.le_trans h.hB hsz,hbox,h.ht,hk,⟨bqq ho.1 (by simp) (by simp),ho.2⟩,hC.own h.ifs (by decide),hC.own h.flds (by decide),hC.mths h.mths (by decide) (by decide)⟩,hC⟩
theorem RkC.addI {x:Int} (hkeep: ∀q,q<w.heap.size→q≠kb→V.iv.ownBlock≠some q→w'.heap[q]?=w.heap[q]?) (hbox:Bx w' kb ((aq3 σ V++t).set 6 (.slice (some ⟨g,0,none⟩) (σ.c.ifs.length+1) cap)) 80)
  (hrow:w'.ownsRow B 3 1 (.slice (some ⟨g,0,none⟩) (σ.c.ifs.length+1) cap) (σ.c.ifs.length+1) (σ.c.ifs.map (Value.int .i64)++ [.int .i64 x])) (hg:V.iv.ownBlock=some g∨w.heap.size≤g):
  ∃(ρ':Nat→Nat) (iv':Value),RkC w' ρ' B kb { σ with c:={ σ.c with ifs:=σ.c.ifs++ [x] } } { V with iv:=iv' } t∧Chg [1,4] w ρ w' ρ':=by
 obtain⟨hC,hl,hk,ho⟩:=h.addR hos htp hou hsz h.ifs.2 hkeep hbox hrow hg (by decide)
 exact⟨paint ρ g 4, .slice (some ⟨g,0,none⟩) (σ.c.ifs.length+1) cap,⟨hl,Nat.le_trans h.hB hsz,hbox,h.ht,hk,hC.own h.pool (by decide),⟨bqq ho.1 (by simp) (by simp),ho.2⟩,hC.own h.flds (by decide),hC.mths h.mths (by decide) (by decide)⟩,hC⟩
theorem RkC.addF {x:aqB} (hkeep: ∀q,q<w.heap.size→q≠kb→V.fv.ownBlock≠some q→w'.heap[q]?=w.heap[q]?) (hbox:Bx w' kb ((aq3 σ V++t).set 7 (.slice (some ⟨g,0,none⟩) (σ.c.flds.length+1) cap)) 80)
  (hrow:w'.ownsRow B 83 4 (.slice (some ⟨g,0,none⟩) (σ.c.flds.length+1) cap) (σ.c.flds.length+1) (σ.c.flds.flatMap aqB.cells++x.cells)) (hg:V.fv.ownBlock=some g∨w.heap.size≤g):
  ∃(ρ':Nat→Nat) (fv':Value),RkC w' ρ' B kb { σ with c:={ σ.c with flds:=σ.c.flds++ [x] } } { V with fv:=fv' } t∧Chg [1,5] w ρ w' ρ':=by
 obtain⟨hC,hl,hk,ho⟩:=h.addR hos htp hou hsz h.flds.2 hkeep hbox hrow hg (by decide)
 exact⟨paint ρ g 5, .slice (some ⟨g,0,none⟩) (σ.c.flds.length+1) cap,⟨hl,Nat.le_trans h.hB hsz,hbox,h.ht,hk,hC.own h.pool (by decide),hC.own h.ifs (by decide),⟨bqq ho.1 (by simp) (by simp),ho.2⟩,hC.mths h.mths (by decide) (by decide)⟩,hC⟩
theorem RkC.addM {x:aqA} {cv tv:Value} {ms:List (aqA×Value×Value)} (m1:ms.map (·.1)=σ.c.mths) (m2:eqo w ρ B 37 8 V.tv ms.length (aq8 ms) 6) (m3: ∀q∈ms,fqM w ρ q.1 q.2.1 q.2.2)
  (hkeep: ∀q,q<w.heap.size→q≠kb→V.tv.ownBlock≠some q→w'.heap[q]?=w.heap[q]?) (hbox:Bx w' kb ((aq3 σ V++t).set 8 (.slice (some ⟨g,0,none⟩) (ms.length+1) cap)) 80)
  (hrow:w'.ownsRow B 37 8 (.slice (some ⟨g,0,none⟩) (ms.length+1) cap) (ms.length+1) (aq8 ms++x.cells cv tv)) (hx:fqM w ρ x cv tv) (hg:V.tv.ownBlock=some g∨w.heap.size≤g):
  ∃(ρ':Nat→Nat) (tv':Value),RkC w' ρ' B kb { σ with c:={ σ.c with mths:=σ.c.mths++ [x] } } { V with tv:=tv' } t∧Chg [1,6] w ρ w' ρ':=by
 obtain⟨hC,hl,hk,ho⟩:=h.addR hos htp hou hsz m2.2 hkeep hbox hrow hg (by decide)
 have hS: ∀q:aqA×Value×Value,fqM w ρ q.1 q.2.1 q.2.2→fqM w' (paint ρ g 6) q.1 q.2.1 q.2.2:=fun q hq=> ⟨hC.sl (by decide) hq.hcode,hC.sl (by decide) hq.htraps,hC.soft (by decide) hq.soft⟩
 refine⟨paint ρ g 6, .slice (some ⟨g,0,none⟩) (ms.length+1) cap,⟨hl,Nat.le_trans h.hB hsz,hbox,h.ht,hk,hC.own h.pool (by decide),hC.own h.ifs (by decide),hC.own h.flds (by decide),ms++ [(x,cv,tv)],by simp [m1],⟨bqq ho.1 (by simp) (by simp [aq8]),ho.2⟩,fun q hq=> ?_⟩,hC⟩
 rcases List.mem_append.1 hq with hq|hq
 ·exact hS q (m3 q hq)
 obtain rfl:=List.mem_singleton.1 hq
 exact hS (x,cv,tv) hx
end
theorem eq_ko (w:World) (x k:Ko):(binOp .eql 33 (.agg #[.int .i64 x.tag, .string x.text, .int .i64 x.num, .int .i64 x.a, .int .i64 x.b]) (.agg #[.int .i64 k.tag, .string k.text, .int .i64 k.num, .int .i64 k.a, .int .i64 k.b])).run Tryz.prog w= .ok (.bool (x.same k)) w:=by
 unfold Ko.same
 go_simp
 have e:x.text.data=k.text.data↔x.text.toList=k.text.toList:=by
  rw [ByteArray.toList_eq,ByteArray.toList_eq]
  exact⟨fun h=>by rw [h],fun h=>Array.toList_inj.1 h⟩
 by_cases h1:x.tag=k.tag<;>by_cases h2:x.text.toList=k.text.toList<;>by_cases h3:x.num=k.num<;>by_cases h4:x.a=k.a<;>by_cases h5:x.b=k.b<;>simp [h1,h2,h3,h4,h5,e]
def gqf (w:World) (ρ:Nat→Nat) (B kb:Nat) (V:RkV) (t:List Value) (r:Nat×AsK) (e:Ending) (w':World):Prop:=
 e= .returned (.int .i64 r.1)∧ ∃(ρ':Nat→Nat) (pv':Value),RkC w' ρ' B kb r.2 { V with pv:=pv' } t∧Chg [1,3] w ρ w' ρ'
theorem iqu {p:Ko→Bool} {l:List Ko} {i:Nat} {x:Ko} (hi:l[i]?=some x) (hx:p x=true) (hn: ∀(q:Nat) y,q<i→l[q]?=some y→p y=false):l.findIdx? p=some i:=by
 rw [List.findIdx?_eq_some_iff_getElem]
 obtain⟨h,e⟩:=List.getElem?_eq_some_iff.1 hi
 refine⟨h,by rw [e];exact hx,fun j hj=> ?_⟩
 have:=hn j (l[j]'(by omega)) hj (List.getElem?_eq_getElem _)
 simp [this]
theorem jq2 {p:Ko→Bool} {l:List Ko} (hn: ∀(q:Nat) y,l[q]?=some y→p y=false):l.findIdx? p=none:=by
 rw [List.findIdx?_eq_none_iff]
 intro x hx
 obtain⟨i,hi⟩:=List.mem_iff_getElem?.1 hx
 exact hn i x hi
theorem lqH {w:World} {ρ:Nat→Nat} {B:Nat} {pool:List Ko} {v:Value} (h:eqo w ρ B 33 5 v pool.length (pool.flatMap Ko.cells) 3) (hl:pool.length≤1000000):cqX w (fun _=>True) 5 pool.length (pool.flatMap Ko.cells) v:=bqJ h.1 _ (by omega) (by omega) fun _ _=>trivial
theorem dq2 (ρ:Nat→Nat) (B kb:Nat) (σ:AsK) (V:RkV) (t:List Value) (k:Ko) (w:World) (h:RkC w ρ B kb σ V t) (hl:σ.c.pool.length≤1000000):
  Calls Tryz.prog 140 #[.pointer (some ⟨kb,0,none⟩),koL k] w (gqf w ρ B kb V t (σ.need k)):=by
 have H:=Hq h
 have hkl:=h.box.lt
 have HPL:=Hq (lqH h.pool hl)
 obtain⟨A,cap,hpv,hcap,hmx⟩:=aqm HPL.out
 obtain⟨x1,x2,x3,x4,x5,x6,x7,x8,x9,x10,x11,x12⟩:=far kb w.heap.size hkl
 have X0:=Hq (aqo w [.int .i64 k.tag, .string k.text, .int .i64 k.num, .int .i64 k.a, .int .i64 k.b] 33)
 have HB0:=Hq ((Below.refl w.heap.size w).alloc (Nat.le_refl _) (.cells #[.int .i64 k.tag, .string k.text, .int .i64 k.num, .int .i64 k.a, .int .i64 k.b] 33))
 have hek:=eq_ko
 clear h
 unfold koL
 go_enter Tryz.func140,Tryz.ntmps140
 go_wp2_with fail
 go_loopw [5] (fun iv wr=> ∃i:Nat,iv= .int .i64 i∧i≤σ.c.pool.length∧Hid (∀(q:Nat) y,q<i→σ.c.pool[q]?=some y→y.same k=false)∧Hid (Below w.heap.size w wr)∧Hid (Bx wr w.heap.size [.int .i64 k.tag, .string k.text, .int .i64 k.num, .int .i64 k.a, .int .i64 k.b] 33)) (fun i _=>σ.c.pool.length - (RowKit.intOf i).toNat)
 case atStart=>exact⟨0,rfl,by omega,Hq (fun q y h=>absurd h (by omega)),HB0,X0⟩
 case round=>
  obtain⟨wo,hwo⟩: ∃W,W=wr:=⟨_,rfl⟩
  subst hwo
  obtain⟨i,rfl,hi,HN,HB,HX⟩:=hrel
  have HR:=Hq (H.out.below HB.out)
  have c2:=HR.out.box.cell 2 rfl
  rw [hpv] at c2
  have q0:=HX.out.cell 0 rfl
  have q1:=HX.out.cell 1 rfl
  have q2:=HX.out.cell 2 rfl
  have q3:=HX.out.cell 3 rfl
  have q4:=HX.out.cell 4 rfl
  have hzr:=HB.out.size
  have hxl:=HX.out.lt
  by_cases hlt:i<σ.c.pool.length
  ·obtain⟨y,hy⟩: ∃y,σ.c.pool[i]?=some y:=⟨_,List.getElem?_eq_getElem hlt⟩
   have hHP:=HPL.out.keep (bqE.of_below HB.out)
   rw [hpv] at hHP
   obtain⟨b,off,hA,hbl,p0,p1,p2,p3,p4⟩:=bq4 hHP i y hy
   subst hA
   have HBn:=Hq (fun m=>below_drewN HB.out m)
   have HXn:=Hq (fun m=>HX.out.below (below_drewN (Below.refl wo.heap.size wo) m) hxl)
   clear hHP
   cases hs:y.same k
   ·have HN2:=Hq (show∀(q:Nat) z,q<i+1→σ.c.pool[q]?=some z→z.same k=false from fun q z hq hz=>by
     rcases Nat.lt_or_ge q i with h|h
     ·exact HN.out q z h hz
     obtain rfl:q=i:=by omega
     rw [hy] at hz
     cases hz
     exact hs)
    have he:=fun W=>hek W y k
    rw [hs] at he
    clear hy hs hek
    go_wp2_with fail
    go_quiet (fail)
    go_wp2_with fail
    go_roundw
    case rel=>exact⟨i+1,by go_num,by omega,HN2,Hq (HBn.out _),Hq (HXn.out _)⟩
    case measure=>simp [RowKit.intOf];omega
   have HF:=Hq (iq0 (iqu hy hs (fun q z hq hz=>HN.out q z hq hz)))
   have he:=fun W=>hek W y k
   rw [hs] at he
   clear hy hs hek
   go_wp2_with fail
   go_quiet (fail)
   go_wp2_with fail
   go_ret
   rw [HF.out]
   exact⟨by simp,ρ,V.pv,H.out.below (HBn.out _),Chg.of_below (HBn.out _)⟩
  have HF:=Hq (hqx (σ:=σ) (jq2 (fun q y hq=>HN.out q y (by have:=(List.getElem?_eq_some_iff.1 hq).1;omega) hq)))
  have z2:=HR.out.box.frozen 2
  have HO:=Hq HR.out.pool.1
  rw [hpv] at HO
  have hBw:=HR.out.hB
  have hnk:A.map (·.block)≠some kb:=fun e=>by
   have h1:=HR.out.pool.2 kb
   rw [hpv,HR.out.kc] at h1
   cases A with
   |none=>cases e
   |some a=>exact absurd (h1 e) (by decide)
  have hkr:kb<wo.heap.size:=by omega
  clear hek
  go_wp2_with fail
  go_region_law (first
   | (refine aqt rfl (.tmp 33) (.tmp 35) 23 rfl Tryz.underlying23 gqk rfl (by omega) B rfl ((aqp HO.out (fun _ _=>rfl)).alloc _) rfl rfl (aqd _ _ _ _ (by first|rfl|omega| (simp<;>omega))) (by simp [Value.oneCell']) (by omega) (by simp only [maxLen];omega) (by omega) (by first|rfl|omega| (simp<;>omega)) ?_
      intro g6 cap6 W' ho hg hb hgg
      have HO6:=Hq ho
      have HG6:=Hq hg
      have X6:=Hq (show Bx W' kb (aq3 σ V++t) 80 from(hg.block kb (by first|omega| (simp;omega)) (fun e=>hnk (by cases A<;>first| (cases e;done) |exact e.symm))).trans ((Below.heap_alloc _ _ _ (by first|omega| (simp;omega))).trans HR.out.box))
      have c6:=X6.out.cell 2 rfl
      have z6:=X6.out.frozen 2
      have HGG:=Hq hgg
      clear ho hg hb hgg))
  all_goals
   go_wp2_with fail
   go_ret
   rw [HF.out]
   have hz6:=HG6.out.size
   try simp only [World.size_alloc] at hz6
   have hzw:wo.heap.size+1≤W'.heap.size:=by first|exact hz6|exact Nat.le_trans (Nat.le_of_eq (World.size_alloc _ _).symm) hz6
   have hnb: ∀q:Nat,V.pv.ownBlock≠some q→some q≠(Value.slice A σ.c.pool.length cap).ownBlock:=fun q h e=>h (by rw [hpv];exact e.symm)
   have hgv:V.pv.ownBlock=some g6∨wo.heap.size≤g6:=by
    rcases HGG.out with e|e
    ·exact .inl (by rw [hpv];exact e)
    right
    first|omega| (simp at e;omega)
   have hgk:g6≠kb:=by
    rintro rfl
    rcases hgv with e|e
    ·exact absurd ((HR.out.pool.2 _ e).symm.trans HR.out.kc) (by decide)
    omega
   obtain⟨ρ',pv',hM,hC⟩:=HR.out.addP (k:=k) (w':=W'.setCell ⟨kb,2,none⟩ (.slice (some ⟨g6,0,none⟩) (σ.c.pool.length+1) cap6)) (g:=g6) (cap:=cap6) HG6.out.os HG6.out.tape HG6.out.output (by simp;omega)
    (fun q hq h1 h2=> (Below.heap_setCell _ _ _ _ h1).trans ((HG6.out.block q (by simp;omega) (hnb q h2)).trans (Below.heap_alloc _ _ _ hq))) (X6.out.set 2 _) (aqY HO6.out hgk _) hgv
   exact⟨by simp,ρ',pv',hM,(Chg.of_below HB.out).trans hC⟩
theorem gqf.trans {w w1 w':World} {ρ ρ1:Nat→Nat} {B kb:Nat} {V:RkV} {t:List Value} {pv1:Value} {r:Nat×AsK} {e:Ending} (h:Chg [1,3] w ρ w1 ρ1) (k:gqf w1 ρ1 B kb { V with pv:=pv1 } t r e w'):gqf w ρ B kb V t r e w':=by
 obtain⟨h1,ρ',pv',h2,h3⟩:=k
 exact⟨h1,ρ',pv',h2,h.trans h3⟩
theorem bqo (ρ:Nat→Nat) (B kb:Nat) (σ:AsK) (V:RkV) (t:List Value) (s:ByteArray) (w:World) (h:RkC w ρ B kb σ V t) (hs:s.size≤65536) (hl:σ.c.pool.length≤1000000):
  Calls Tryz.prog 139 #[.pointer (some ⟨kb,0,none⟩), .string s] w (gqf w ρ B kb V t (σ.text s)):=by
 have H:=Hq h
 clear h
 go_enter Tryz.func139,Tryz.ntmps139
 go_wp2_with (go_at_call 140;refine(dq2 ρ B kb σ V t ⟨1,s,0,0,0⟩ _ H.out hl).mono ?_;rintro e w1 ⟨rfl,hq⟩;have HQ:=Hq hq;clear hq)
 go_ret
 exact⟨rfl,HQ.out⟩
theorem iq9 (ρ:Nat→Nat) (B kb:Nat) (σ:AsK) (V:RkV) (t:List Value) (n:Int) (w:World) (h:RkC w ρ B kb σ V t) (hn: -2147483648≤n∧n≤2147483647) (hl:σ.c.pool.length≤1000000):
  Calls Tryz.prog 141 #[.pointer (some ⟨kb,0,none⟩), .int .i64 n] w (gqf w ρ B kb V t (σ.number n)):=by
 have H:=Hq h
 have HN:=Hq hn
 clear h hn
 go_enter Tryz.func141,Tryz.ntmps141
 go_wp2_with (go_at_call 140;refine(dq2 ρ B kb σ V t ⟨3,⟨#[]⟩,n,0,0⟩ _ H.out hl).mono ?_;rintro e w1 ⟨rfl,hq⟩;have HQ:=Hq hq;clear hq)
 go_ret
 exact⟨rfl,HQ.out⟩
theorem cq4 (ρ:Nat→Nat) (B kb:Nat) (σ:AsK) (V:RkV) (t:List Value) (s:ByteArray) (w:World) (h:RkC w ρ B kb σ V t) (hs:s.size≤65536) (hl:σ.c.pool.length≤999999):
  Calls Tryz.prog 64 #[.pointer (some ⟨kb,0,none⟩), .string s] w (gqf w ρ B kb V t (σ.cls s)):=by
 have H:=Hq h
 clear h
 have h1:=fql σ.c.pool ⟨1,s,0,0,0⟩
 have hl1:(σ.text s).2.c.pool.length≤1000000:=by
  show(dqz σ.c.pool ⟨1,s,0,0,0⟩).2.length≤1000000
  omega
 have hi1:(σ.text s).1≤2000000:=by
  show(dqz σ.c.pool ⟨1,s,0,0,0⟩).1≤2000000
  omega
 clear h1
 have HC:=Hq (show σ.cls s=(σ.text s).2.need ⟨7,⟨#[]⟩,0,(σ.text s).1,0⟩ from rfl)
 go_enter Tryz.func64,Tryz.ntmps64
 go_wp2_with (go_at_call 139;refine(bqo ρ B kb σ V t s _ H.out hs (by omega)).mono ?_;refine aqa ?_)
 refine aqb ?_
 rintro e w1 ⟨rfl,ρ1,pv1,hm,hg⟩
 have H1:=Hq hm
 have G1:=Hq hg
 clear hm hg
 go_wp2_with (go_at_call 140;refine(dq2 ρ1 B kb (σ.text s).2 { V with pv:=pv1 } t ⟨7,⟨#[]⟩,0,(σ.text s).1,0⟩ _ H1.out hl1).mono ?_;refine aqa ?_)
 refine aqb ?_
 rintro e w2 hq
 have HQ:=Hq (gqf.trans G1.out hq)
 obtain⟨rfl,_⟩:=hq
 go_wp2_with fail
 go_ret
 exact⟨rfl,HQ.out.2⟩
theorem eqs (ρ:Nat→Nat) (B kb:Nat) (σ:AsK) (V:RkV) (t:List Value) (tag:Int) (c n d:ByteArray) (w:World) (h:RkC w ρ B kb σ V t) (ht:cqF tag) (hc:c.size≤65536) (hn:n.size≤65536) (hd:d.size≤65536) (hl:σ.c.pool.length≤999000):
  Calls Tryz.prog 170 #[.pointer (some ⟨kb,0,none⟩), .int .i64 tag, .string c, .string n, .string d] w (gqf w ρ B kb V t (σ.member tag c n d)):=by
 have H:=Hq h
 have HT:=Hq ht
 clear h ht
 obtain⟨a,ha⟩: ∃a,a=σ.cls c:=⟨_,rfl⟩
 obtain⟨x,hx⟩: ∃x,x=a.2.text n:=⟨_,rfl⟩
 obtain⟨y,hy⟩: ∃y,y=x.2.text d:=⟨_,rfl⟩
 obtain⟨z,hz⟩: ∃z,z=y.2.need ⟨12,⟨#[]⟩,0,x.1,y.1⟩:=⟨_,rfl⟩
 have HC:=Hq (show σ.member tag c n d=z.2.need ⟨tag,⟨#[]⟩,0,a.1,z.1⟩ by subst ha;subst hx;subst hy;subst hz;rfl)
 have la:=fqQ (s:=c) hl
 rw [←ha] at la
 have lx:=bqn (k:=⟨1,n,0,0,0⟩) la.1
 have hx':x=a.2.need ⟨1,n,0,0,0⟩:=hx
 rw [←hx'] at lx
 have ly:=bqn (k:=⟨1,d,0,0,0⟩) lx.1
 have hy':y=x.2.need ⟨1,d,0,0,0⟩:=hy
 rw [←hy'] at ly
 have lz:=bqn (k:=⟨12,⟨#[]⟩,0,x.1,y.1⟩) ly.1
 rw [←hz] at lz
 have HA:=Hq ha
 have HX:=Hq hx
 have HY:=Hq hy
 have HZ:=Hq hz
 have T12:=Hq (show cqF 12 by unfold cqF;omega)
 clear ha hx hy hz hx' hy'
 rw [HC.out]
 go_enter Tryz.func170,Tryz.ntmps170
 go_wp2_with (go_at_call 64;refine(cq4 ρ B kb σ V t c _ H.out hc (by omega)).mono ?_;refine aqa ?_)
 refine aqb ?_
 rw [←HA.out]
 rintro e w1 ⟨rfl,ρ1,pv1,hm,hg⟩
 have H1:=Hq hm
 have G1:=Hq hg
 clear hm hg
 go_wp2_with (go_at_call 139;refine(bqo ρ1 B kb a.2 { V with pv:=pv1 } t n _ H1.out hn (by omega)).mono ?_;refine aqa ?_)
 refine aqb ?_
 rw [←HX.out]
 rintro e w2 ⟨rfl,ρ2,pv2,hm,hg⟩
 have H2:=Hq hm
 have G2:=Hq (G1.out.trans hg)
 clear hm hg
 go_wp2_with (go_at_call 139;refine(bqo ρ2 B kb x.2 { V with pv:=pv2 } t d _ H2.out hd (by omega)).mono ?_;refine aqa ?_)
 refine aqb ?_
 rw [←HY.out]
 rintro e w3 ⟨rfl,ρ3,pv3,hm,hg⟩
 have H3:=Hq hm
 have G3:=Hq (G2.out.trans hg)
 clear hm hg
 go_wp2_with (go_at_call 140;refine(dq2 ρ3 B kb y.2 { V with pv:=pv3 } t ⟨12,⟨#[]⟩,0,x.1,y.1⟩ _ H3.out (by omega)).mono ?_;refine aqa ?_)
 refine aqb ?_
 rw [←HZ.out]
 rintro e w4 ⟨rfl,ρ4,pv4,hm,hg⟩
 have H4:=Hq hm
 have G4:=Hq (G3.out.trans hg)
 clear hm hg
 go_wp2_with (go_at_call 140;refine(dq2 ρ4 B kb z.2 { V with pv:=pv4 } t ⟨tag,⟨#[]⟩,0,a.1,z.1⟩ _ H4.out (by omega)).mono ?_;refine aqa ?_)
 refine aqb ?_
 rintro e w5 hq
 have HQ:=Hq (gqf.trans G4.out hq)
 obtain⟨rfl,_⟩:=hq
 go_wp2_with fail
 go_ret
 exact⟨rfl,HQ.out.2⟩
end Go.Proofs.YtlcidkiplidamaaGreatDoor
