/- Part 19 of what the laws rest on: walks. Conditions: those that each theorem names. -/
import Derived.Test.YtdbniocnjhfhdaaGreatDoorB18
set_option linter.unusedSimpArgs false
set_option linter.unusedVariables false
set_option maxRecDepth 100000
set_option maxHeartbeats 1000000
namespace Go.Proofs.YtdbniocnjhfhdaaGreatDoor
open Go Go.RowKit Lib Go.Maps
theorem cqS:Keyed Tryz.prog 220:=Keyed.of_law (deep_law (m:=5) Om Kq9 Kq9 (by rw [Tryz.underlying220]))
abbrev NmD:=List UInt8×List UInt8
def hqJ (p:NmD):Value:= .agg #[.string ⟨p.1.toArray⟩, .string ⟨p.2.toArray⟩]
theorem hqK:Tryz.prog.cellsOf 220=2:=by kernel_rfl
theorem lqD:Tryz.prog.cellsOf 9=1:=by kernel_rfl
theorem iqV:Tryz.prog.keyType 220=true:=by kernel_rfl
theorem kqi: ∃m,Tryz.prog.types.size+1=m+1+1:=⟨Tryz.prog.types.size - 1,by have:0<Tryz.prog.types.size:=of_decide_eq_true Kq9;omega⟩
theorem iqW (m:Nat) (a b:ByteArray) (h1:a.size≤maxLen) (h2:b.size≤maxLen):Tryz.prog.keyLits (m+1+1) 220 [.string a, .string b]=some [.string a.data.toList, .string b.data.toList]:=by
 unfold Program.keyLits
 simp only [Tryz.underlying220]
 rw [if_pos ⟨by rw [hqK];rfl,by simp⟩]
 simp only [List.mapM_cons,List.mapM_nil,lqD]
 unfold Program.keyLits
 simp [Tryz.underlying9,h1,h2]
theorem lqE (p:NmD) (h1:p.1.length≤65536) (h2:p.2.length≤65536): ∃l,keyOf Tryz.prog 220 (hqJ p)=some l:=by
 obtain⟨m,hm⟩:=kqi
 unfold hqJ keyOf
 simp only [Tryz.underlying220]
 rw [if_pos]
 ·rw [hm]
  show∃l,Option.map _ (Tryz.prog.keyLits (m+1+1) 220 [.string ⟨p.1.toArray⟩, .string ⟨p.2.toArray⟩])=some l
  rw [iqW m _ _ (by simp [ByteArray.size,maxLen];omega) (by simp [ByteArray.size,maxLen];omega)]
  exact⟨_,rfl⟩
 rw [iqV]
 simp [Value.formed,Tryz.underlying220,hqK]
theorem jqC {p q:NmD} (h:hqJ p=hqJ q):p=q:=by
 unfold hqJ at h
 simp only [Value.agg.injEq,Array.mk.injEq,List.cons.injEq,Value.string.injEq,ByteArray.mk.injEq,and_true] at h
 exact Prod.ext h.1 h.2
def hqL (p:NmD):Prop:=p.1.length≤65536∧p.2.length≤65536
structure hqM (es:Array MapEntry) (clock:Nat) (ks:List NmD) (cnt:NmD→Nat):Prop where
 small: ∀p∈ks,hqL p
 key: ∀(j:Nat) e,es[j]?=some e→ ∃p,p∈ks∧e.key=hqJ p∧e.val= .int .i64 (cnt p)
 has: ∀p∈ks, ∃(j:Nat) (e:MapEntry),es[j]?=some e∧e.key=hqJ p
 born: ∀(j:Nat) e,es[j]?=some e→e.born<clock
 uniq: ∀(i j:Nat) e e',es[i]?=some e→es[j]?=some e'→e.key=e'.key∨e.born=e'.born→i=j
theorem hqM.keys {es:Array MapEntry} {clock:Nat} {ks:List NmD} {cnt:NmD→Nat} (h:hqM es clock ks cnt): ∀e∈es.toList, ∃l,keyOf Tryz.prog 220 e.key=some l:=fun e he=>by
 obtain⟨j,hj⟩:=List.mem_iff_getElem?.1 he
 obtain⟨p,hp,hk,_⟩:=h.key j e (by simpa using hj)
 rw [hk]
 exact lqE p (h.small p hp).1 (h.small p hp).2
theorem dqj {w:World} {b:Nat} {es:Array MapEntry} {clock:Nat} {ks:List NmD} {cnt:NmD→Nat} (hb:w.heap[b]?=some (.map es clock)) (h:hqM es clock ks cnt) (p:NmD) (hp:hqL p) (h0:p∉ks→cnt p=0):
  (Instr.lookup 199 (.map (some b)) (hqJ p) false).run Tryz.prog w= .ok (.int .i64 (cnt p)) w:=by
 obtain⟨l,hl⟩:=lqE p hp.1 hp.2
 have hz:(zeroValue 3).run Tryz.prog w= .ok (.int .i64 0) w:=by kernel_rfl
 rcases cqS.find w hl es.toList h.keys with⟨hf,hno⟩ | ⟨j,e,hf,hj,hk⟩
 ·have hc:cnt p=0:=h0 fun hm=>by
   obtain⟨j,e,he,hk⟩:=h.has p hm
   exact hno e (List.mem_of_getElem? (by simpa using he)) hk
  rw [hc]
  simp [Instr.lookup,Sem.run_bind,run_underlying Tryz.underlying199,Result.andThen,MapKept.run_getObj_map hb,cqS.check w es.isEmpty hl,hf,hz]
 obtain⟨q,hq,hk2,hv⟩:=h.key j e (by simpa using hj)
 have hqp:q=p:=jqC (hk2.symm.trans hk)
 subst hqp
 simp [Instr.lookup,Sem.run_bind,run_underlying Tryz.underlying199,Result.andThen,MapKept.run_getObj_map hb,cqS.check w es.isEmpty hl,hf,hv]
theorem gqu {w:World} {b:Nat} {es:Array MapEntry} {clock:Nat} {ks:List NmD} {cnt:NmD→Nat} (hb:w.heap[b]?=some (.map es clock)) (h:hqM es clock ks cnt) (p:NmD) (hp:hqL p) (h0:p∉ks→cnt p=0):
  ∃es1 clock1 born,(Instr.mapEntry 199 (.map (some b)) (hqJ p)).run Tryz.prog w= .ok (.tuple #[.int .i64 (cnt p), .int .i64 (born:Nat)]) (w.putObj b (.map es1 clock1))∧hqM es1 clock1 (p::ks) cnt∧ ∃(j:Nat) (e:MapEntry),es1[j]?=some e∧e.key=hqJ p∧e.born=born:=by
 obtain⟨l,hl⟩:=lqE p hp.1 hp.2
 have hz:(zeroValue 3).run Tryz.prog w= .ok (.int .i64 0) w:=by kernel_rfl
 rcases cqS.find w hl es.toList h.keys with⟨hf,hno⟩ | ⟨j,e,hf,hj,hk⟩
 ·have hnp:p∉ks:=fun hm=>by
   obtain⟨j,e,he,hk⟩:=h.has p hm
   exact hno e (List.mem_of_getElem? (by simpa using he)) hk
  refine⟨es.push { key:=hqJ p,val:= .int .i64 0,born:=clock },clock+1,clock, ?_, ?_,es.size,_,Array.getElem?_push_size,rfl,rfl⟩
  ·rw [h0 hnp]
   simp [Instr.mapEntry,Sem.run_bind,run_underlying Tryz.underlying199,Result.andThen,MapKept.run_getObj_map hb,cqS.check w false hl,hf,hz,goInt,MapKept.run_setObj_map _ hb,World.putObj]
  have hget: ∀(i:Nat) x,(es.push { key:=hqJ p,val:= .int .i64 0,born:=clock })[i]?=some x→es[i]?=some x∨(i=es.size∧x={ key:=hqJ p,val:= .int .i64 0,born:=clock }):=by
   intro i x hx
   rw [Array.getElem?_push] at hx
   split at hx
   ·exact .inr ⟨by assumption,by injection hx with hx;exact hx.symm⟩
   exact .inl hx
  refine⟨fun q hq=> ?_,fun i x hx=> ?_,fun q hq=> ?_,fun i x hx=> ?_,fun i i' x x' hx hx' hor=> ?_⟩
  ·rcases List.mem_cons.1 hq with rfl|hq
   ·exact hp
   exact h.small q hq
  ·rcases hget i x hx with hx| ⟨rfl,rfl⟩
   ·obtain⟨q,hq,r⟩:=h.key i x hx
    exact⟨q,List.mem_cons_of_mem _ hq,r⟩
   exact⟨p,by simp,rfl,by rw [h0 hnp];rfl⟩
  ·rcases List.mem_cons.1 hq with rfl|hq
   ·exact⟨es.size,_,Array.getElem?_push_size,rfl⟩
   obtain⟨i,x,hx,hk⟩:=h.has q hq
   refine⟨i,x, ?_,hk⟩
   rw [Array.getElem?_push,if_neg (by have:=(Array.getElem?_eq_some_iff.1 hx).1;omega)]
   exact hx
  ·rcases hget i x hx with hx| ⟨rfl,rfl⟩
   ·have:=h.born i x hx
    omega
   show clock<clock+1
   omega
  rcases hget i x hx with hx| ⟨rfl,rfl⟩ <;>rcases hget i' x' hx' with hx'| ⟨rfl,rfl⟩
  ·exact h.uniq i i' x x' hx hx' hor
  ·exfalso
   rcases hor with hor|hor
   ·exact hno x (List.mem_of_getElem? (by simpa using hx)) hor
   have:=h.born i x hx
   have h2:x.born=clock:=hor
   omega
  ·exfalso
   rcases hor with hor|hor
   ·exact hno x' (List.mem_of_getElem? (by simpa using hx')) hor.symm
   have:=h.born i' x' hx'
   have h2:clock=x'.born:=hor
   omega
  rfl
 obtain⟨q,hq,hk2,hv⟩:=h.key j e (by simpa using hj)
 have hqp:q=p:=jqC (hk2.symm.trans hk)
 subst hqp
 have hje:es[j]?=some e:=by simpa using hj
 have hsame:es.modify j (fun e=> { e with key:=hqJ q })=es:=by
  apply Array.ext_getElem?
  intro i
  rw [Array.getElem?_modify]
  split
  ·rename_i hij
   subst hij
   rw [hje]
   simp [←hk]
  rfl
 refine⟨es,clock,e.born, ?_,⟨fun x hx=> ?_,fun i x hx=> ?_,fun x hx=> ?_,h.born,h.uniq⟩,j,e,hje,hk,rfl⟩
 ·simp [Instr.mapEntry,Sem.run_bind,run_underlying Tryz.underlying199,Result.andThen,MapKept.run_getObj_map hb,cqS.check w false hl,hf,hje,hk,cqS.stays w hl,hv,goInt,MapKept.run_setObj_map _ hb,World.putObj,hsame]
 ·rcases List.mem_cons.1 hx with rfl|hx
  ·exact hp
  exact h.small x hx
 ·obtain⟨q',hq',r⟩:=h.key i x hx
  exact⟨q',List.mem_cons_of_mem _ hq',r⟩
 rcases List.mem_cons.1 hx with rfl|hx
 ·exact⟨j,e,hje,hk⟩
 exact h.has x hx
theorem gqv {w:World} {b:Nat} {es:Array MapEntry} {clock:Nat} {ks:List NmD} {cnt:NmD→Nat} (hb:w.heap[b]?=some (.map es clock)) (h:hqM es clock ks cnt) (p:NmD) (born v:Nat) (hp:p∈ks) (he: ∃(j:Nat) (e:MapEntry),es[j]?=some e∧e.key=hqJ p∧e.born=born) (cnt':NmD→Nat) (hv:cnt' p=v) (hc: ∀q,q≠p→cnt' q=cnt q):
  ∃es1,(Instr.entryStore 199 (.map (some b)) (.int .i64 (born:Nat)) (.int .i64 (v:Nat))).run Tryz.prog w= .ok () (w.putObj b (.map es1 clock))∧hqM es1 clock ks cnt':=by
 obtain⟨j,e,hj,hk,rfl⟩:=he
 have hfind:es.findIdx? (fun x=> (x.born:Int)==(e.born:Int))=some j:=by
  rw [Array.findIdx?_eq_some_iff_getElem]
  obtain⟨hlt,hej⟩:=Array.getElem?_eq_some_iff.1 hj
  refine⟨hlt,by rw [hej];simp,fun i hi=> ?_⟩
  intro hx
  have hb2:es[i].born=e.born:=by have h3:=eq_of_beq hx;omega
  have:=h.uniq i j _ _ (Array.getElem?_eq_getElem Om) hj (.inr hb2)
  omega
 have hget: ∀(i:Nat) x,(es.modify j fun e=> { e with val:= .int .i64 (v:Nat) })[i]?=some x→(i=j∧x={ e with val:= .int .i64 (v:Nat) })∨(i≠j∧es[i]?=some x):=by
  intro i x hx
  rw [Array.getElem?_modify] at hx
  split at hx
  ·rename_i hij
   subst hij
   rw [hj] at hx
   simp only [Option.map_some,Option.some.injEq] at hx
   exact .inl ⟨rfl,hx.symm⟩
  rename_i hij
  exact .inr ⟨fun e=>hij e.symm,hx⟩
 have hback: ∀(i:Nat) x,es[i]?=some x→ ∃y,(es.modify j fun e=> { e with val:= .int .i64 (v:Nat) })[i]?=some y∧y.key=x.key∧y.born=x.born:=by
  intro i x hx
  rw [Array.getElem?_modify]
  split
  ·rw [hx]
   exact⟨_,rfl,rfl,rfl⟩
  exact⟨x,hx,rfl,rfl⟩
 have hold: ∀(i:Nat) x,(es.modify j fun e=> { e with val:= .int .i64 (v:Nat) })[i]?=some x→ ∃y,es[i]?=some y∧x.key=y.key∧x.born=y.born:=by
  intro i x hx
  rcases hget i x hx with⟨rfl,rfl⟩ | ⟨_,hx⟩
  ·exact⟨e,hj,rfl,rfl⟩
  exact⟨x,hx,rfl,rfl⟩
 refine⟨es.modify j fun e=> { e with val:= .int .i64 (v:Nat) }, ?_,h.small,fun i x hx=> ?_,fun q hq=> ?_,fun i x hx=> ?_,fun i i' x x' hx hx' hor=> ?_⟩
 ·simp [Instr.entryStore,Sem.run_bind,Result.andThen,MapKept.run_getObj_map hb,asInt,asIntOf,hfind,MapKept.run_setObj_map _ hb,World.putObj]
 ·rcases hget i x hx with⟨rfl,rfl⟩ | ⟨hne,hx⟩
  ·exact⟨p,hp,hk,by rw [hv]⟩
  obtain⟨q,hq,hk2,hv2⟩:=h.key i x hx
  refine⟨q,hq,hk2, ?_⟩
  rw [hc q,hv2]
  intro hqp
  subst hqp
  exact hne (h.uniq i j x e hx hj (.inl (hk2.trans hk.symm)))
 ·obtain⟨i,x,hx,hkx⟩:=h.has q hq
  obtain⟨y,hy,hy1,_⟩:=hback i x hx
  exact⟨i,y,hy,hy1.trans hkx⟩
 ·obtain⟨y,hy,_,hy2⟩:=hold i x hx
  rw [hy2]
  exact h.born i y hy
 obtain⟨y,hy,hy1,hy2⟩:=hold i x hx
 obtain⟨y',hy',hy1',hy2'⟩:=hold i' x' hx'
 refine h.uniq i i' y y' hy hy' ?_
 rw [←hy1, ←hy1', ←hy2, ←hy2']
 exact hor
theorem eqc (n:Nat) (h:n≤1048576):IntKind.i64.wrap ((n:Int)+1)=(n:Int)+1:=by
 have e1:((n:Int)+1)%2^IntKind.i64.bits=(n:Int)+1:=by
  show((n:Int)+1)%18446744073709551616=(n:Int)+1
  omega
 have e2: ¬((2:Int)^(IntKind.i64.bits - 1)≤(n:Int)+1):=by
  show¬((9223372036854775808:Int)≤(n:Int)+1)
  omega
 simp only [IntKind.wrap]
 rw [e1,if_neg (fun h=>e2 (by simp only [Bool.and_eq_true,decide_eq_true_eq] at h;exact h.2))]
def bqU (w:World) (b:Nat) (seen:List NmD):Prop:= ∃es clock,w.heap[b]?=some (.map es clock)∧hqM es clock seen (fun p=>seen.count p)
theorem iqX (x:aqq) (p1 p2 p3 b:Nat) (nm d:ByteArray) (seen:List NmD) (w:World) (h1:cqB w p1 (.map (some b))) (h2:cqB w p2 (.string nm)) (h3:cqB w p3 (.string d)) (l1:p1<w.heap.size) (l2:p2<w.heap.size) (l3:p3<w.heap.size) (hs2:nm.size≤65536) (hs3:d.size≤65536) (hlen:seen.length≤1048576) (hS:bqU w b seen):
  Calls Tryz.prog 158 #[bq0 x, .pointer (some ⟨p1,0,none⟩), .pointer (some ⟨p2,0,none⟩), .pointer (some ⟨p3,0,none⟩)] w fun e w'=>e= .returned (.bool (decide ((nm.data.toList,d.data.toList)∈seen)))∧But w.heap.size [b] w w'∧bqU w' b ((nm.data.toList,d.data.toList)::seen):=by
 obtain⟨es,clock,hm,hg⟩:=hS
 have lb:b<w.heap.size:=(Array.getElem?_eq_some_iff.1 hm).1
 have HW:=Hq ((Below.refl w.heap.size w).alloc Nr (.cells #[.int .i64 x.acc, .int .i64 x.name, .int .i64 x.desc, .int .i64 x.value] 119))
 have k1:=(h1.alloc l1 (.cells #[.int .i64 x.acc, .int .i64 x.name, .int .i64 x.desc, .int .i64 x.value] 119))
 have k2:=(h2.alloc l2 (.cells #[.int .i64 x.acc, .int .i64 x.name, .int .i64 x.desc, .int .i64 x.value] 119))
 have k3:=(h3.alloc l3 (.cells #[.int .i64 x.acc, .int .i64 x.name, .int .i64 x.desc, .int .i64 x.value] 119))
 have hm0:(w.alloc (.cells #[.int .i64 x.acc, .int .i64 x.name, .int .i64 x.desc, .int .i64 x.value] 119)).heap[b]?=some (.map es clock):=(Below.heap_alloc _ _ _ lb).trans hm
 obtain⟨q,hq⟩: ∃q:NmD,q=(nm.data.toList,d.data.toList):=⟨_,rfl⟩
 have hkv:hqJ q= .agg #[.string nm, .string d]:=by rw [hq];rfl
 have hsq:hqL q:=by rw [hq];exact⟨Nat.le_trans (Nat.le_of_eq Array.length_toList) hs2,Nat.le_trans (Nat.le_of_eq Array.length_toList) hs3⟩
 rw [←hq]
 obtain⟨n,hn⟩: ∃n,seen.count q=n:=⟨_,rfl⟩
 have hn0:q∉seen→n=0:=fun h=>by rw [←hn];exact List.count_eq_zero.2 h
 have hnl:n≤1048576:=by rw [←hn];exact Nat.le_trans List.count_le_length hlen
 have hdec:decide (q∈seen)=decide (1<n+1):=by
  by_cases hin:q∈seen
  ·have:0<seen.count q:=List.count_pos_iff.2 hin
   rw [decide_eq_true hin,decide_eq_true Om]
  have:=hn0 hin
  rw [decide_eq_false hin,decide_eq_false Om]
 have HG:=Hq hg
 have HD:=Hq hdec
 have HKV:=Hq hkv
 clear hg h1 h2 h3 hm hdec
 unfold bq0
 go_enter Tryz.func158,Tryz.ntmps158
 go_wp2_with fail
 have hbx:=HW.out.size
 have hld:Below (w.alloc (.cells #[.int .i64 x.acc, .int .i64 x.name, .int .i64 x.desc, .int .i64 x.value] 119)).heap.size (w.alloc (.cells #[.int .i64 x.acc, .int .i64 x.name, .int .i64 x.desc, .int .i64 x.value] 119)) (w.alloc (.cells #[.int .i64 x.acc, .int .i64 x.name, .int .i64 x.desc, .int .i64 x.value] 119)).drew:=Rf9.drew
 refine wp_region_held_drew (S:=fun w'=>w'.cell? ⟨p1,0,none⟩=some (.map (some b))∧w'.cell? ⟨p2,0,none⟩=some (.string nm)∧w'.cell? ⟨p3,0,none⟩=some (.string d)) rfl ⟨k1,k2,k3⟩ (fun hS=> ?_)
 have HWD:=Hq (HW.out.trans (hld.mono Sp))
 have hmd:(w.alloc (.cells #[.int .i64 x.acc, .int .i64 x.name, .int .i64 x.desc, .int .i64 x.value] 119)).drew.heap[b]?=some (.map es clock):=hm0
 have hzd:(w.alloc (.cells #[.int .i64 x.acc, .int .i64 x.name, .int .i64 x.desc, .int .i64 x.value] 119)).drew.heap.size=w.heap.size+1:=by show(w.alloc _).heap.size=_;simp
 clear hm0 hld hbx HW k1 k2 k3
 generalize (w.alloc (.cells #[.int .i64 x.acc, .int .i64 x.name, .int .i64 x.desc, .int .i64 x.value] 119)).drew=wa at*
 have hlk:=dqj hmd HG.out q hsq (fun h=>by show seen.count q=0;exact List.count_eq_zero.2 h)
 obtain⟨es1,clock1,born,hen,hg1,hat⟩:=gqu hmd HG.out q hsq (fun h=>by show seen.count q=0;exact List.count_eq_zero.2 h)
 simp only [hn] at hlk hen
 have hm1:(wa.putObj b (.map es1 clock1)).heap[b]?=some (.map es1 clock1):=World.putObj_heap_same Om
 have hlk1:=dqj hm1 hg1 q hsq (fun h=>absurd Sp h)
 simp only [hn] at hlk1
 obtain⟨es2,hst,hg2⟩:=gqv hm1 hg1 q born (n+1) Sp hat (fun x=> (q::seen).count x) (by simp [hn]) (fun x hx=>by rw [List.count_cons_of_ne (fun e=>hx e.symm)])
 have hm2:((wa.putObj b (.map es1 clock1)).putObj b (.map es2 clock1)).heap[b]?=some (.map es2 clock1):=World.putObj_heap_same Sd
 have hlk2:=dqj hm2 hg2 q hsq (fun h=>absurd Sp h)
 simp only [List.count_cons_self,hn] at hlk2
 rw [show((n+1:Nat):Int)=(n:Int)+1 from rfl] at hlk2 hst
 have gr1:=grownBy_putObj' wa b (.map es1 clock1)
 have gr2:=grownBy_putObj' (wa.putObj b (.map es1 clock1)) b (.map es2 clock1)
 have nc1: ∀r,some b=some r→ ∃o:Obj,wa.heap[r]?=some o∧o.isCells=false:=fun r e=>by cases e;exact⟨_,hmd,rfl⟩
 have nc2: ∀r,some b=some r→ ∃o:Obj,(wa.putObj b (.map es1 clock1)).heap[r]?=some o∧o.isCells=false:=fun r e=>by cases e;exact⟨_,hm1,rfl⟩
 have hS1:=And.intro (cell_kept hS.1 gr1 nc1) (And.intro (cell_kept hS.2.1 gr1 nc1) (cell_kept hS.2.2 gr1 nc1))
 have hS2:=And.intro (cell_kept hS1.1 gr2 nc2) (And.intro (cell_kept hS1.2.1 gr2 nc2) (cell_kept hS1.2.2 gr2 nc2))
 have HB2:=Hq (show But w.heap.size [b] w ((wa.putObj b (.map es1 clock1)).putObj b (.map es2 clock1)) from((But.of_below (S:= [b]) HWD.out).grown gr1 Om (fun k hk=> .inl (by injection hk with hk;simp [hk]))).grown gr2 Sd (fun k hk=> .inl (by injection hk with hk;simp [hk])))
 have HM2:=Hq (show bqU ((wa.putObj b (.map es1 clock1)).putObj b (.map es2 clock1)) b (q::seen) from⟨es2,clock1,hm2,hg2⟩)
 rw [hkv] at hlk hen hlk1 hlk2
 clear hm1 hm2 gr1 gr2 nc1 nc2 hg1 hg2 hat hmd
 generalize wa.putObj b (.map es1 clock1)=wb at*
 generalize wb.putObj b (.map es2 clock1)=wc at*
 refine wpAnyH_take (i:=0) (oi:={ dst:=some 6,op:=Op.load 199 (Operand.tmp 1),type:=199,pos:= "check.go:184",after:= #[],guard:=none }) (v:= .map (some b)) rfl Kq9 Kq9 Kq9 (fun _ _ _ h=>h) (Or.inl ⟨by rfl,fun w' hw'=> ?_⟩) hS ?_
 ·obtain⟨z1,z2,z3⟩:=hw'
  go_simp
 try simp only [Act.put,List.setIfInBounds_toArray,List.set_cons_zero,List.set_cons_succ]
 refine wpAnyH_take (i:=1) (oi:={ dst:=some 7,op:=Op.load 9 (Operand.tmp 2),type:=9,pos:= "check.go:184",after:= #[],guard:=none }) (v:= .string nm) rfl Kq9 Kq9 Kq9 (fun _ _ _ h=>h) (Or.inl ⟨by rfl,fun w' hw'=> ?_⟩) hS ?_
 ·obtain⟨z1,z2,z3⟩:=hw'
  go_simp
 try simp only [Act.put,List.setIfInBounds_toArray,List.set_cons_zero,List.set_cons_succ]
 refine wpAnyH_take (i:=2) (oi:={ dst:=some 8,op:=Op.load 9 (Operand.tmp 3),type:=9,pos:= "check.go:184",after:= #[],guard:=none }) (v:= .string d) rfl Kq9 Kq9 Kq9 (fun _ _ _ h=>h) (Or.inl ⟨by rfl,fun w' hw'=> ?_⟩) hS ?_
 ·obtain⟨z1,z2,z3⟩:=hw'
  go_simp
 try simp only [Act.put,List.setIfInBounds_toArray,List.set_cons_zero,List.set_cons_succ]
 refine wpAnyH_take (i:=3) (v:= .agg #[.string nm, .string d]) rfl Kq9 Kq9 Kq9 (fun _ _ _ h=>h) (Or.inl ⟨by rfl,fun w' hw'=> ?_⟩) hS ?_
 ·go_simp
 try simp only [Act.put,List.setIfInBounds_toArray,List.set_cons_zero,List.set_cons_succ]
 refine wpAnyH_ready (rs:= [4,6]) Kq9 Sp ?_
 refine AllReadyH.cons rfl (fun K hK=> ?_) (AllReadyH.cons rfl (fun K hK=> ?_) AllReadyH.nil)
 ·refine bqq (by rfl) ?_
  go_wp2
  refine hK.out _ _ hS (fun _=> ?_)
  clear hK K
  try simp only [Act.put,List.setIfInBounds_toArray,List.set_cons_zero,List.set_cons_succ]
  refine wpAnyH_take (i:=5) (v:= .int .i64 ((n:Int)+1)) rfl Kq9 Kq9 Kq9 (fun _ _ _ h=>h) (Or.inl ⟨by rfl,fun w' hw'=> ?_⟩) hS ?_
  ·go_simp
   try exact eqc n hnl
  try simp only [Act.put,List.setIfInBounds_toArray,List.set_cons_zero,List.set_cons_succ]
  refine wpAnyH_ready (rs:= [6]) Kq9 Sp ?_
  refine AllReadyH.cons rfl (fun K hK=> ?_) AllReadyH.nil
  refine bqq (by rfl) ?_
  go_wp2
  refine hK.out _ _ hS1 (fun _=> ?_)
  clear hK K
  try simp only [Act.put,List.setIfInBounds_toArray,List.set_cons_zero,List.set_cons_succ]
  refine wpAnyH_take (i:=7) (v:= .int .i64 (born:Nat)) rfl Kq9 Kq9 Kq9 (fun _ _ _ h=>h) (Or.inl ⟨by rfl,fun w' hw'=> ?_⟩) hS1 ?_
  ·go_simp
  try simp only [Act.put,List.setIfInBounds_toArray,List.set_cons_zero,List.set_cons_succ]
  refine wpAnyH_ready (rs:= [8]) Kq9 Sp ?_
  refine AllReadyH.cons rfl (fun K hK=> ?_) AllReadyH.nil
  refine bqq (by rfl) ?_
  go_wp2
  refine hK.out _ _ hS2 (fun _=> ?_)
  clear hK K
  try simp only [Act.put,List.setIfInBounds_toArray,List.set_cons_zero,List.set_cons_succ]
  refine wpAnyH_done Kq9 ?_ _
  obtain⟨z1,z2,z3⟩:=hS2
  have hgt:decide ((n:Int)+1>1)=decide (1<n+1):=by
   by_cases h:1<n+1
   ·rw [decide_eq_true h,decide_eq_true Om]
   rw [decide_eq_false h,decide_eq_false Om]
  go_wp2
  go_ret
  exact⟨by rw [HD.out];simp,HB2.out,HM2.out⟩
 refine bqq (by rfl) ?_
 go_wp2
 refine hK.out _ _ hS1 (fun _=> ?_)
 clear hK K
 try simp only [Act.put,List.setIfInBounds_toArray,List.set_cons_zero,List.set_cons_succ]
 refine wpAnyH_take (i:=7) (v:= .int .i64 (born:Nat)) rfl Kq9 Kq9 Kq9 (fun _ _ _ h=>h) (Or.inl ⟨by rfl,fun w' hw'=> ?_⟩) hS1 ?_
 ·go_simp
 try simp only [Act.put,List.setIfInBounds_toArray,List.set_cons_zero,List.set_cons_succ]
 refine wpAnyH_ready (rs:= [4]) Kq9 Sp ?_
 refine AllReadyH.cons rfl (fun K hK=> ?_) AllReadyH.nil
 refine bqq (by rfl) ?_
 go_wp2
 refine hK.out _ _ hS1 (fun _=> ?_)
 clear hK K
 try simp only [Act.put,List.setIfInBounds_toArray,List.set_cons_zero,List.set_cons_succ]
 refine wpAnyH_take (i:=5) (v:= .int .i64 ((n:Int)+1)) rfl Kq9 Kq9 Kq9 (fun _ _ _ h=>h) (Or.inl ⟨by rfl,fun w' hw'=> ?_⟩) hS1 ?_
 ·go_simp
  try exact eqc n hnl
 try simp only [Act.put,List.setIfInBounds_toArray,List.set_cons_zero,List.set_cons_succ]
 refine wpAnyH_ready (rs:= [8]) Kq9 Sp ?_
 refine AllReadyH.cons rfl (fun K hK=> ?_) AllReadyH.nil
 refine bqq (by rfl) ?_
 go_wp2
 refine hK.out _ _ hS2 (fun _=> ?_)
 clear hK K
 try simp only [Act.put,List.setIfInBounds_toArray,List.set_cons_zero,List.set_cons_succ]
 refine wpAnyH_done Kq9 ?_ _
 obtain⟨z1,z2,z3⟩:=hS2
 have hgt:decide ((n:Int)+1>1)=decide (1<n+1):=by
  by_cases h:1<n+1
  ·rw [decide_eq_true h,decide_eq_true Om]
  rw [decide_eq_false h,decide_eq_false Om]
 go_wp2
 go_ret
 exact⟨by rw [HD.out];simp,HB2.out,HM2.out⟩
end Go.Proofs.YtdbniocnjhfhdaaGreatDoor
set_option maxHeartbeats 4000000
namespace Go.Proofs.YtdbniocnjhfhdaaGreatDoor
open Go Go.RowKit Lib
def eqd (bk p5 p7 p8 p9 p10:Nat):List Value:= [.int .i64 20, .func (.func 152) #[] #[.pointer (some ⟨p8,0,none⟩), .pointer (some ⟨p10,0,none⟩)], .int .i64 21, .func (.func 153) #[] #[.pointer (some ⟨p7,0,none⟩)], .int .i64 22, .func (.func 155) #[] #[.pointer (some ⟨p9,0,none⟩)], .int .i64 23, .func (.func 156) #[] #[.pointer (some ⟨bk,0,none⟩)], .int .i64 24, .func (.func 158) #[] #[.pointer (some ⟨p5,0,none⟩), .pointer (some ⟨p7,0,none⟩), .pointer (some ⟨p9,0,none⟩)], .int .i64 26, .func (.func 159) #[] #[.pointer (some ⟨bk,0,none⟩), .pointer (some ⟨p9,0,none⟩)]]
def hqN (b1 b2 b3 b4 b5 b6:Bool):Int:=if b1 then 20 else if b2 then 21 else if b3 then 22 else if b4 then 23 else if b5 then 24 else if b6 then 26 else 0
theorem bqU.below {w w':World} {b:Nat} {seen:List NmD} (h:bqU w b seen) (hb:Below w.heap.size w w'):bqU w' b seen:=by
 obtain⟨es,clock,hm,hg⟩:=h
 exact⟨es,clock,(hb.block b (Array.getElem?_eq_some_iff.1 hm).1).trans hm,hg⟩
theorem bqU.lt {w:World} {b:Nat} {seen:List NmD} (h:bqU w b seen):b<w.heap.size:=by
 obtain⟨es,clock,hm,hg⟩:=h
 exact(Array.getElem?_eq_some_iff.1 hm).1
theorem bqU.apart {w:World} {b p o:Nat} {v:Value} {seen:List NmD} (h:bqU w b seen) (hp:w.cell? ⟨p,o,none⟩=some v):p≠b:=by
 obtain⟨es,clock,hm,hg⟩:=h
 obtain⟨ob,ho,hc⟩:=cells_of_cell hp
 intro e
 subst e
 rw [show w.heap[p]?=some ob from ho] at hm
 injection hm with hm
 subst hm
 cases hc
theorem bqm.seen {w w':World} {b:Nat} {seen:List NmD} {ok:Nat→Prop} {size n:Nat} {cells:List Value} {v:Value} (h:bqm w ok size n cells v) (hm:bqU w b seen) (hb:But w.heap.size [b] w w'):bqm w' ok size n cells v:=by
 obtain⟨A,cap,rfl,h1,h2,h3,h4⟩:=h
 refine⟨A,cap,rfl,h1,h2,h3,fun h0=> ?_⟩
 obtain⟨g,off,e,hlt,ho,hc⟩:=h4 h0
 refine⟨g,off,e,Nat.lt_of_lt_of_le hlt hb.size,ho,fun j u hu=> ?_⟩
 have h5:=hc j u hu
 have hne:=hm.apart h5
 exact(hb.cell (p:=⟨g,off+j,none⟩) hlt (by simpa using hne)).trans h5
structure nqb (c:aqc) (A:Option Addr) (cap:Nat) (ifs flds mths:Value) (ok:Nat→Prop) (g bk p5 p7 p8 p9 p10 b:Nat) (nm d:ByteArray) (one two:Bool) (x:aqq) (seen:List NmD) (fb:Nat) (W:World):Prop where
 gg:Bx W g (eqd bk p5 p7 p8 p9 p10) 218
 kk:Bx W bk [.int .i64 c.minor, .int .i64 c.major, .slice A c.pool.length cap, .int .i64 c.acc, .int .i64 c.this, .int .i64 c.sup,ifs,flds,mths] 179
 xx:Bx W fb [.int .i64 x.acc, .int .i64 x.name, .int .i64 x.desc, .int .i64 x.value] 119
 c5:cqB W p5 (.map (some b))
 c7:cqB W p7 (.string nm)
 c8:cqB W p8 (.bool one)
 c9:cqB W p9 (.string d)
 c10:cqB W p10 (.bool two)
 bo:aqQ W ok c A cap ifs flds mths
 sm:bqU W b seen
theorem cqB.below {W W':World} {p:Nat} {v:Value} (h:cqB W p v) (hb:Below W.heap.size W W'):cqB W' p v:=(hb.cell (p:=⟨p,0,none⟩) (aqN h)).trans h
theorem nqb.below {c:aqc} {A:Option Addr} {cap:Nat} {ifs flds mths:Value} {ok:Nat→Prop} {g bk p5 p7 p8 p9 p10 b:Nat} {nm d:ByteArray} {one two:Bool} {x:aqq} {seen:List NmD} {fb:Nat} {W W':World} (h:nqb c A cap ifs flds mths ok g bk p5 p7 p8 p9 p10 b nm d one two x seen fb W) (hb:Below W.heap.size W W'):nqb c A cap ifs flds mths ok g bk p5 p7 p8 p9 p10 b nm d one two x seen fb W':=
 ⟨h.gg.below hb h.gg.lt,h.kk.below hb h.kk.lt,h.xx.below hb h.xx.lt,h.c5.below hb,h.c7.below hb,h.c8.below hb,h.c9.below hb,h.c10.below hb,h.bo.below hb,h.sm.below hb⟩
theorem cqB.seen {W W':World} {p b:Nat} {v:Value} {seen:List NmD} (h:cqB W p v) (hm:bqU W b seen) (hb:But W.heap.size [b] W W'):cqB W' p v:=(hb.cell (p:=⟨p,0,none⟩) (aqN h) (by simpa using hm.apart h)).trans h
theorem nqb.seen {c:aqc} {A:Option Addr} {cap:Nat} {ifs flds mths:Value} {ok:Nat→Prop} {g bk p5 p7 p8 p9 p10 b:Nat} {nm d:ByteArray} {one two:Bool} {x:aqq} {seen seen':List NmD} {fb:Nat} {W W':World} (h:nqb c A cap ifs flds mths ok g bk p5 p7 p8 p9 p10 b nm d one two x seen fb W) (hb:But W.heap.size [b] W W') (hs:bqU W' b seen'):nqb c A cap ifs flds mths ok g bk p5 p7 p8 p9 p10 b nm d one two x seen' fb W':=
 ⟨h.gg.but hb (aqk (h.sm.apart (h.gg.cell 0 rfl))),h.kk.but hb (aqk (h.sm.apart (h.kk.cell 0 rfl))),h.xx.but hb (aqk (h.sm.apart (h.xx.cell 0 rfl))),h.c5.seen h.sm hb,h.c7.seen h.sm hb,h.c8.seen h.sm hb,h.c9.seen h.sm hb,h.c10.seen h.sm hb,⟨h.bo.hp.seen h.sm hb,h.bo.h1,h.bo.h2,h.bo.h3⟩,hs⟩
theorem iqY (c:aqc) (A:Option Addr) (cap:Nat) (ifs flds mths:Value) (ok:Nat→Prop) (g bk p5 p7 p8 p9 p10 b:Nat) (nm d:ByteArray) (one two:Bool) (x:aqq) (seen:List NmD) (w:World) (hF:nqb c A cap ifs flds mths ok g bk p5 p7 p8 p9 p10 b nm d one two x seen w.heap.size (w.alloc (.cells #[.int .i64 x.acc, .int .i64 x.name, .int .i64 x.desc, .int .i64 x.value] 119))) (hlb:b<w.heap.size) (hs2:nm.size≤65536) (hs3:d.size≤65536) (hlen:seen.length≤1048576) (hn:bqA x.value):
  Calls Tryz.prog 151 #[bq0 x, .slice (some ⟨g,0,none⟩) 6 6] w fun e w'=>
   e= .returned (.int .i64 (hqN (!one|| !two) (!bqh nm.data.toList) (!aqD d.data.toList) (bq3 c.acc x.acc) (decide ((nm.data.toList,d.data.toList)∈seen)) (cqt c.pool x d.data.toList)))∧But w.heap.size [b] w w'∧
   bqU w' b (if(!one|| !two) || !bqh nm.data.toList|| !aqD d.data.toList||bq3 c.acc x.acc then seen else(nm.data.toList,d.data.toList)::seen):=by
 have HB0:=Hq (But.of_below (S:= [b]) ((Below.refl w.heap.size w).alloc Nr (.cells #[.int .i64 x.acc, .int .i64 x.name, .int .i64 x.desc, .int .i64 x.value] 119)))
 have F0:=Hq hF
 have HN:=Hq hn
 obtain⟨v1,e1⟩: ∃v,(!one|| !two)=v:=⟨_,rfl⟩
 obtain⟨v2,e2⟩: ∃v,(!bqh nm.data.toList)=v:=⟨_,rfl⟩
 obtain⟨v3,e3⟩: ∃v,(!aqD d.data.toList)=v:=⟨_,rfl⟩
 obtain⟨v4,e4⟩: ∃v,bq3 c.acc x.acc=v:=⟨_,rfl⟩
 obtain⟨v5,e5⟩: ∃v,decide ((nm.data.toList,d.data.toList)∈seen)=v:=⟨_,rfl⟩
 obtain⟨v6,e6⟩: ∃v,cqt c.pool x d.data.toList=v:=⟨_,rfl⟩
 rw [e1,e2,e3,e4,e5,e6]
 have E1:=Hq e1
 have E2:=Hq e2
 have E3:=Hq e3
 have E4:=Hq e4
 have E5:=Hq e5
 have E6:=Hq e6
 clear hF hn e1 e2 e3 e4 e5 e6
 have hz0:(w.alloc (.cells #[.int .i64 x.acc, .int .i64 x.name, .int .i64 x.desc, .int .i64 x.value] 119)).heap.size=w.heap.size+1:=by simp
 unfold bq0
 go_enter Tryz.func151,Tryz.ntmps151
 go_wp2_with fail
 refine wp_loop_rounds 7 ?_
 generalize w.alloc (.cells #[.int .i64 x.acc, .int .i64 x.name, .int .i64 x.desc, .int .i64 x.value] 119)=w0 at*
 clear hz0
 have g0:=F0.out.gg.cell 0 rfl
 have g1:=F0.out.gg.cell 1 rfl
 have x0:=F0.out.xx.cell 0 rfl
 have x1:=F0.out.xx.cell 1 rfl
 have x2:=F0.out.xx.cell 2 rfl
 have x3:=F0.out.xx.cell 3 rfl
 have hxl:=F0.out.xx.lt
 have G0:=Hq (F0.out.below ((Below.refl w0.heap.size w0).alloc Nr (.cells #[.int .i64 20, .func (.func 152) #[] #[.pointer (some ⟨p8,0,none⟩), .pointer (some ⟨p10,0,none⟩)]] 218)))
 have R0:=Hq (aql w0 [.int .i64 20, .func (.func 152) #[] #[.pointer (some ⟨p8,0,none⟩), .pointer (some ⟨p10,0,none⟩)]] 218)
 have HC0:=Hq (HB0.out.trans ((But.of_below (S:= [b]) ((Below.refl w0.heap.size w0).alloc Nr (.cells #[.int .i64 20, .func (.func 152) #[] #[.pointer (some ⟨p8,0,none⟩), .pointer (some ⟨p10,0,none⟩)]] 218))).mono HB0.out.size (fun _ _ h=>h)))
 have hzr:(w0.alloc (.cells #[.int .i64 20, .func (.func 152) #[] #[.pointer (some ⟨p8,0,none⟩), .pointer (some ⟨p10,0,none⟩)]] 218)).heap.size=w0.heap.size+1:=by simp
 rw [rounds_succ]
 go_wp2_with (go_at_call 152;refine aqa ?_)
 refine aqb ?_
 clear g0 g1 x0 x1 x2 x3
 refine(iqQ x p8 p10 one two _ G0.out.c8 G0.out.c10 (aqN G0.out.c8) (aqN G0.out.c10)).mono ?_
 rw [E1.out]
 rintro e w1 ⟨rfl,hb⟩
 have HB1:=Hq (HC0.out.trans ((But.of_below (S:= [b]) hb).mono (by have:=HC0.out.size;omega) (fun _ _ h=>h)))
 have F1:=Hq (G0.out.below hb)
 have r0:=(R0.out.below hb Om).cell 0 rfl
 have hz1:=hb.size
 clear hb
 cases v1 with
 |true=>
  go_wp2_with fail
  go_ret
  exact⟨rfl,HB1.out,F1.out.sm⟩
 |false=>
  go_wp2_with fail
  have g0:=F1.out.gg.cell 2 rfl
  have g1:=F1.out.gg.cell 3 rfl
  have x0:=F1.out.xx.cell 0 rfl
  have x1:=F1.out.xx.cell 1 rfl
  have x2:=F1.out.xx.cell 2 rfl
  have x3:=F1.out.xx.cell 3 rfl
  have hxl:=F1.out.xx.lt
  have G1:=Hq (F1.out.below ((Below.refl w1.heap.size w1).alloc Nr (.cells #[.int .i64 21, .func (.func 153) #[] #[.pointer (some ⟨p7,0,none⟩)]] 218)))
  have R1:=Hq (aql w1 [.int .i64 21, .func (.func 153) #[] #[.pointer (some ⟨p7,0,none⟩)]] 218)
  have HC1:=Hq (HB1.out.trans ((But.of_below (S:= [b]) ((Below.refl w1.heap.size w1).alloc Nr (.cells #[.int .i64 21, .func (.func 153) #[] #[.pointer (some ⟨p7,0,none⟩)]] 218))).mono HB1.out.size (fun _ _ h=>h)))
  have hzr:(w1.alloc (.cells #[.int .i64 21, .func (.func 153) #[] #[.pointer (some ⟨p7,0,none⟩)]] 218)).heap.size=w1.heap.size+1:=by simp
  rw [rounds_succ]
  go_wp2_with (go_at_call 153;refine aqa ?_)
  refine aqb ?_
  clear g0 g1 x0 x1 x2 x3
  refine(iqR x p7 nm _ G1.out.c7 (aqN G1.out.c7) hs2).mono ?_
  rw [E2.out]
  rintro e w2 ⟨rfl,hb⟩
  have HB2:=Hq (HC1.out.trans ((But.of_below (S:= [b]) hb).mono (by have:=HC1.out.size;omega) (fun _ _ h=>h)))
  have F2:=Hq (G1.out.below hb)
  have r0:=(R1.out.below hb Om).cell 0 rfl
  have hz2:=hb.size
  clear hb
  cases v2 with
  |true=>
   go_wp2_with fail
   go_ret
   exact⟨rfl,HB2.out,F2.out.sm⟩
  |false=>
   go_wp2_with fail
   have g0:=F2.out.gg.cell 4 rfl
   have g1:=F2.out.gg.cell 5 rfl
   have x0:=F2.out.xx.cell 0 rfl
   have x1:=F2.out.xx.cell 1 rfl
   have x2:=F2.out.xx.cell 2 rfl
   have x3:=F2.out.xx.cell 3 rfl
   have hxl:=F2.out.xx.lt
   have G2:=Hq (F2.out.below ((Below.refl w2.heap.size w2).alloc Nr (.cells #[.int .i64 22, .func (.func 155) #[] #[.pointer (some ⟨p9,0,none⟩)]] 218)))
   have R2:=Hq (aql w2 [.int .i64 22, .func (.func 155) #[] #[.pointer (some ⟨p9,0,none⟩)]] 218)
   have HC2:=Hq (HB2.out.trans ((But.of_below (S:= [b]) ((Below.refl w2.heap.size w2).alloc Nr (.cells #[.int .i64 22, .func (.func 155) #[] #[.pointer (some ⟨p9,0,none⟩)]] 218))).mono HB2.out.size (fun _ _ h=>h)))
   have hzr:(w2.alloc (.cells #[.int .i64 22, .func (.func 155) #[] #[.pointer (some ⟨p9,0,none⟩)]] 218)).heap.size=w2.heap.size+1:=by simp
   rw [rounds_succ]
   go_wp2_with (go_at_call 155;refine aqa ?_)
   refine aqb ?_
   clear g0 g1 x0 x1 x2 x3
   refine(iqS x p9 d _ G2.out.c9 (aqN G2.out.c9) hs3).mono ?_
   rw [E3.out]
   rintro e w3 ⟨rfl,hb⟩
   have HB3:=Hq (HC2.out.trans ((But.of_below (S:= [b]) hb).mono (by have:=HC2.out.size;omega) (fun _ _ h=>h)))
   have F3:=Hq (G2.out.below hb)
   have r0:=(R2.out.below hb Om).cell 0 rfl
   have hz3:=hb.size
   clear hb
   cases v3 with
   |true=>
    go_wp2_with fail
    go_ret
    exact⟨rfl,HB3.out,F3.out.sm⟩
   |false=>
    go_wp2_with fail
    have g0:=F3.out.gg.cell 6 rfl
    have g1:=F3.out.gg.cell 7 rfl
    have x0:=F3.out.xx.cell 0 rfl
    have x1:=F3.out.xx.cell 1 rfl
    have x2:=F3.out.xx.cell 2 rfl
    have x3:=F3.out.xx.cell 3 rfl
    have hxl:=F3.out.xx.lt
    have G3:=Hq (F3.out.below ((Below.refl w3.heap.size w3).alloc Nr (.cells #[.int .i64 23, .func (.func 156) #[] #[.pointer (some ⟨bk,0,none⟩)]] 218)))
    have R3:=Hq (aql w3 [.int .i64 23, .func (.func 156) #[] #[.pointer (some ⟨bk,0,none⟩)]] 218)
    have HC3:=Hq (HB3.out.trans ((But.of_below (S:= [b]) ((Below.refl w3.heap.size w3).alloc Nr (.cells #[.int .i64 23, .func (.func 156) #[] #[.pointer (some ⟨bk,0,none⟩)]] 218))).mono HB3.out.size (fun _ _ h=>h)))
    have hzr:(w3.alloc (.cells #[.int .i64 23, .func (.func 156) #[] #[.pointer (some ⟨bk,0,none⟩)]] 218)).heap.size=w3.heap.size+1:=by simp
    rw [rounds_succ]
    go_wp2_with (go_at_call 156;refine aqa ?_)
    refine aqb ?_
    clear g0 g1 x0 x1 x2 x3
    refine(iqT x bk c _ ifs flds mths _ G3.out.kk).mono ?_
    rw [E4.out]
    rintro e w4 ⟨rfl,hb⟩
    have HB4:=Hq (HC3.out.trans ((But.of_below (S:= [b]) hb).mono (by have:=HC3.out.size;omega) (fun _ _ h=>h)))
    have F4:=Hq (G3.out.below hb)
    have r0:=(R3.out.below hb Om).cell 0 rfl
    have hz4:=hb.size
    clear hb
    cases v4 with
    |true=>
     go_wp2_with fail
     go_ret
     exact⟨rfl,HB4.out,F4.out.sm⟩
    |false=>
     go_wp2_with fail
     have g0:=F4.out.gg.cell 8 rfl
     have g1:=F4.out.gg.cell 9 rfl
     have x0:=F4.out.xx.cell 0 rfl
     have x1:=F4.out.xx.cell 1 rfl
     have x2:=F4.out.xx.cell 2 rfl
     have x3:=F4.out.xx.cell 3 rfl
     have hxl:=F4.out.xx.lt
     have G4:=Hq (F4.out.below ((Below.refl w4.heap.size w4).alloc Nr (.cells #[.int .i64 24, .func (.func 158) #[] #[.pointer (some ⟨p5,0,none⟩), .pointer (some ⟨p7,0,none⟩), .pointer (some ⟨p9,0,none⟩)]] 218)))
     have R4:=Hq (aql w4 [.int .i64 24, .func (.func 158) #[] #[.pointer (some ⟨p5,0,none⟩), .pointer (some ⟨p7,0,none⟩), .pointer (some ⟨p9,0,none⟩)]] 218)
     have HC4:=Hq (HB4.out.trans ((But.of_below (S:= [b]) ((Below.refl w4.heap.size w4).alloc Nr (.cells #[.int .i64 24, .func (.func 158) #[] #[.pointer (some ⟨p5,0,none⟩), .pointer (some ⟨p7,0,none⟩), .pointer (some ⟨p9,0,none⟩)]] 218))).mono HB4.out.size (fun _ _ h=>h)))
     have hzr:(w4.alloc (.cells #[.int .i64 24, .func (.func 158) #[] #[.pointer (some ⟨p5,0,none⟩), .pointer (some ⟨p7,0,none⟩), .pointer (some ⟨p9,0,none⟩)]] 218)).heap.size=w4.heap.size+1:=by simp
     rw [rounds_succ]
     go_wp2_with (go_at_call 158;refine aqa ?_)
     refine aqb ?_
     clear g0 g1 x0 x1 x2 x3
     refine(iqX x p5 p7 p9 b nm d seen _ G4.out.c5 G4.out.c7 G4.out.c9 (aqN G4.out.c5) (aqN G4.out.c7) (aqN G4.out.c9) hs2 hs3 hlen G4.out.sm).mono ?_
     rw [E5.out]
     rintro e w5 ⟨rfl,hb,hsm⟩
     have HB5:=Hq (HC4.out.trans (hb.mono (by have:=HC4.out.size;omega) (fun _ _ h=>h)))
     have F5:=Hq (G4.out.seen hb hsm)
     have r0:=(R4.out.but hb (aqk (by have:=F4.out.sm.lt;omega))).cell 0 rfl
     have hz5:=hb.size
     clear hb hsm
     cases v5 with
     |true=>
      go_wp2_with fail
      go_ret
      exact⟨rfl,HB5.out,F5.out.sm⟩
     |false=>
      go_wp2_with fail
      have g0:=F5.out.gg.cell 10 rfl
      have g1:=F5.out.gg.cell 11 rfl
      have x0:=F5.out.xx.cell 0 rfl
      have x1:=F5.out.xx.cell 1 rfl
      have x2:=F5.out.xx.cell 2 rfl
      have x3:=F5.out.xx.cell 3 rfl
      have hxl:=F5.out.xx.lt
      have G5:=Hq (F5.out.below ((Below.refl w5.heap.size w5).alloc Nr (.cells #[.int .i64 26, .func (.func 159) #[] #[.pointer (some ⟨bk,0,none⟩), .pointer (some ⟨p9,0,none⟩)]] 218)))
      have R5:=Hq (aql w5 [.int .i64 26, .func (.func 159) #[] #[.pointer (some ⟨bk,0,none⟩), .pointer (some ⟨p9,0,none⟩)]] 218)
      have HC5:=Hq (HB5.out.trans ((But.of_below (S:= [b]) ((Below.refl w5.heap.size w5).alloc Nr (.cells #[.int .i64 26, .func (.func 159) #[] #[.pointer (some ⟨bk,0,none⟩), .pointer (some ⟨p9,0,none⟩)]] 218))).mono HB5.out.size (fun _ _ h=>h)))
      have hzr:(w5.alloc (.cells #[.int .i64 26, .func (.func 159) #[] #[.pointer (some ⟨bk,0,none⟩), .pointer (some ⟨p9,0,none⟩)]] 218)).heap.size=w5.heap.size+1:=by simp
      rw [rounds_succ]
      go_wp2_with (go_at_call 159;refine aqa ?_)
      refine aqb ?_
      clear g0 g1 x0 x1 x2 x3
      refine(iqU x bk p9 d c A cap ifs flds mths ok _ G5.out.bo G5.out.kk G5.out.c9 (aqN G5.out.c9) HN.out).mono ?_
      rw [E6.out]
      rintro e w6 ⟨rfl,hb⟩
      have HB6:=Hq (HC5.out.trans ((But.of_below (S:= [b]) hb).mono (by have:=HC5.out.size;omega) (fun _ _ h=>h)))
      have F6:=Hq (G5.out.below hb)
      have r0:=(R5.out.below hb Om).cell 0 rfl
      have hz6:=hb.size
      clear hb
      cases v6 with
      |true=>
       go_wp2_with fail
       go_ret
       exact⟨rfl,HB6.out,F6.out.sm⟩
      |false=>
       go_wp2_with fail
       rw [rounds_succ]
       go_wp2_with fail
       go_ret
       exact⟨rfl,HB6.out,F6.out.sm⟩
end Go.Proofs.YtdbniocnjhfhdaaGreatDoor
