/- Part 13 of what the laws rest on: walks. Conditions: those that each theorem names. -/
import Derived.Test.YtdbniocnjhfhdaaGreatDoorB12
set_option linter.unusedSimpArgs false
set_option linter.unusedVariables false
set_option maxRecDepth 100000
set_option maxHeartbeats 1000000
namespace Go.Proofs.YtdbniocnjhfhdaaGreatDoor
open Go Go.RowKit Lib Go.Maps
section
variable {B:Nat} {L:bqp} {nd:Nat} {defs:List UInt8→Option (List UInt8)} {files:List UInt8→Option aqc} {ks going:List (List UInt8)} {ts:List TyV} {v:Value} {W W':World}
theorem LdG.type (h:LdG B L nd defs files ks going ts v W) {t:TyV} {g c:Nat} (ho:W'.ownsRow B 39 6 (.slice (some ⟨g,0,none⟩) (ts.length+1) c) (ts.length+1) (bqE ts++t.cells)) (hg:W.grownBy W' v.ownBlock) (hgg:v.ownBlock=some g∨g=W.heap.size) (ht:iqI W (L.ro v) t):
  LdG B L nd defs files ks going (ts++ [t]) (.slice (some ⟨g,0,none⟩) (ts.length+1) c) (W'.setCell ⟨L.lb,4,none⟩ (.slice (some ⟨g,0,none⟩) (ts.length+1) c)):=by
 have hord:=h.ord
 have hlt:=h.lt
 have hsz:=hg.size
 have hne: ∀q,v.ownBlock=some q→q≠L.lb:=fun q hq=> (h.new q hq).1
 have hnb: ∀k,k<W.heap.size→v.ownBlock≠some k→W'.heap[k]?=W.heap[k]?:=fun k hk hn=>hg.block k hk (fun e=>hn e.symm)
 have hlb:W'.heap[L.lb]?=W.heap[L.lb]?:=hnb _ h.lt (fun e=> (h.new _ e).1 rfl)
 have hbd:W'.heap[L.bd]?=W.heap[L.bd]?:=hnb _ Om (fun e=> (h.new _ e).2.1 rfl)
 have hbf:W'.heap[L.bf]?=W.heap[L.bf]?:=hnb _ Om (fun e=> (h.new _ e).2.2.1 rfl)
 have hbk:W'.heap[L.bk]?=W.heap[L.bk]?:=hnb _ Om (fun e=> (h.new _ e).2.2.2.1 rfl)
 have hbg:W'.heap[L.bg]?=W.heap[L.bg]?:=hnb _ Om (fun e=> (h.new _ e).2.2.2.2 rfl)
 have hgl:g≠L.lb∧g≠L.bd∧g≠L.bf∧g≠L.bk∧g≠L.bg:=by
  rcases hgg with e|e
  ·exact h.new g e
  omega
 have hkp:aqC (L.ro v) W (W'.setCell ⟨L.lb,4,none⟩ (.slice (some ⟨g,0,none⟩) (ts.length+1) c)):=⟨by simpa using hsz,fun q hq hr o=> (World.cell?_of_block (w:=W') (Below.heap_setCell _ _ _ _ (fun e=>hr.1 (by first|exact e|exact e.symm)))).trans (World.cell?_of_block (w:=W) (hnb q hq hr.2.2.2.2.2.1))⟩
 have hro: ∀q,q<W.heap.size→L.ro v q→L.ro (.slice (some ⟨g,0,none⟩) (ts.length+1) c) q:=fun q hq hr=> ⟨hr.1,hr.2.1,hr.2.2.1,hr.2.2.2.1,hr.2.2.2.2.1,fun e=>by
  have e':g=q:=by simpa [Value.ownBlock] using e
  subst e'
  rcases hgg with e2|e2
  ·exact hr.2.2.2.2.2.1 e2
  omega,hr.2.2.2.2.2.2⟩
 have hcell: ∀o,o≠4→(W'.setCell ⟨L.lb,4,none⟩ (.slice (some ⟨g,0,none⟩) (ts.length+1) c)).cell? ⟨L.lb,o,none⟩=W.cell? ⟨L.lb,o,none⟩:=fun o ho=> (World.cell?_setCell_other _ _ _ _ (by intro e;injection e with _ e;exact ho (by first|exact e|exact e.symm))).trans (World.cell?_of_block (w:=W) hlb)
 have hmap: ∀b,b≠L.lb→(W'.setCell ⟨L.lb,4,none⟩ (.slice (some ⟨g,0,none⟩) (ts.length+1) c)).heap[b]?=W'.heap[b]?:=fun b hb=>Below.heap_setCell _ _ _ _ Om
 obtain⟨fd,d1,d2⟩:=h.hd
 obtain⟨ff,n1,f0,f1,f2⟩:=h.hf
 obtain⟨n2,k0,k1⟩:=h.hk
 obtain⟨n3,g0,g1⟩:=h.hg
 refine⟨(hcell 0 Om).trans h.c0,(hcell 1 Om).trans h.c1,(hcell 2 Om).trans h.c2,(hcell 3 Om).trans h.c3,World.cell?_setCell_same _ _ _ ((World.cell?_of_block (w:=W) hlb).trans h.c4),
  fun o=>by rw [World.frozen?_setCell];exact(World.frozen?_of_block (w:=W) hlb).trans (h.fz o),⟨fd,d1.keep ((hmap _ Om).trans hbd),fun s=> (d2 s).keep hkp hro⟩,⟨ff,n1,f0,f1.keep ((hmap _ Om).trans hbf),fun s=> (f2 s).keep hkp hro⟩,
  ⟨n2,k0,k1.keep ((hmap _ Om).trans hbk)⟩,⟨n3,g0,g1.keep ((hmap _ Om).trans hbg)⟩,aqF (bqQ ho (by simpa using hgl.1) _) Sp (by rw [cq0]),fun u hu=> ?_,h.ord,fun q hq=> ?_,by simpa using Nat.lt_of_lt_of_le hlt hsz,fun x hx=>by simpa using Nat.lt_of_lt_of_le (h.exl x hx) hsz,fun q hq=> ?_,h.nex⟩
 ·rcases List.mem_append.1 hu with hu|hu
  ·exact(h.rd u hu).keep hkp hro
  obtain rfl:u=t:=by simpa using hu
  exact ht.keep hkp hro
 ·have e':g=q:=by simpa [Value.ownBlock] using hq
  subst e'
  exact hgl
 have e':g=q:=by simpa [Value.ownBlock] using hq
 subst e'
 rcases hgg with e|e
 ·exact h.newx g e
 intro hx
 have:=h.exl g hx
 omega
theorem LdG.rows (h:LdG B L nd defs files ks going ts v W) (h0:0<ts.length): ∃g cap,v= .slice (some ⟨g,0,none⟩) ts.length cap∧ts.length≤cap∧g<W.heap.size∧ ∀j t,ts[j]?=some t→ ∀q,q<6→W.cell? ⟨g,j*6+q,none⟩=t.cells[q]?:=by
 rcases h.ty.2 with⟨_,h1⟩ | ⟨g,cap,cur,rfl,hb,hg,hnc,hcm,hcs,hx⟩
 ·omega
 refine⟨g,cap,rfl,hnc,(h.ty.lt g rfl).2,fun j t ht q hq=> ?_⟩
 have hl:j<ts.length:=(List.getElem?_eq_some_iff.1 ht).1
 exact(h.ty.cellAt (j*6+q) Om).trans (cqI ts j t ht q hq)
end
theorem mqZ {ns:List (List UInt8)} {s:List UInt8} (h:cq9 ns s<0):s∉ns:=by
 intro hm
 unfold cq9 at h
 split at h
 ·omega
 rename_i hf
 rw [List.findIdx?_eq_none_iff] at hf
 have:=hf s hm
 simp at this
theorem lqo (acc:Int):bits .and .i64 acc 1=1∨bits .and .i64 acc 1=0:=by
 have h: ∀x:BitVec 64,(x&&&1#64)=1#64∨(x&&&1#64)=0#64:=by
  intro x
  rcases Nat.mod_two_eq_zero_or_one x.toNat with h|h
  ·right
   apply BitVec.eq_of_toNat_eq
   simp [BitVec.toNat_and,Nat.and_one_is_mod,h]
  left
  apply BitVec.eq_of_toNat_eq
  simp [BitVec.toNat_and,Nat.and_one_is_mod,h]
 have e:bits .and .i64 acc 1=IntKind.i64.wrap ((BitVec.ofInt 64 acc&&&1#64).toNat:Nat):=rfl
 rw [e]
 rcases h (BitVec.ofInt 64 acc) with h|h
 ·left
  rw [h]
  decide
 right
 rw [h]
 decide
theorem mq0 {ts:List TyV} {g cap:Nat} (frm s:ByteArray) (W:World) (hcap:ts.length≤cap) (hm:ts.length≤100000) (hc: ∀j t,ts[j]?=some t→ ∀q,q<6→W.cell? ⟨g,j*6+q,none⟩=t.cells[q]?) (hf:frm.size≤1048576) (hs:s.size≤1048576):
  Calls Tryz.prog 69 #[.slice (some ⟨g,0,none⟩) ts.length cap, .string frm, .string s] W fun e w'=>e= .returned (.bool (eqX (ts.map TyV.key) frm s))∧W=w':=by
 have hc': ∀j t,(ts.map TyV.name)[j]?=some t→W.cell? ⟨g,j*6,none⟩=some (.string ⟨t.toArray⟩):=fun j t ht=>by
  rw [List.getElem?_map] at ht
  obtain⟨u,hu,rfl⟩:=Option.map_eq_some_iff.1 ht
  exact hc j u hu 0 Om
 have hn:(ts.map TyV.key).map (·.1)=ts.map TyV.name:=by rw [List.map_map];rfl
 have hm':ts.length≤4611686018427387904:=by omega
 by_cases ha:cq9 (ts.map TyV.name) s.toList<0
 ·refine(lqm g ts.length cap (ts.map TyV.name) frm s W Sp hcap hm' hc' ha).mono fun e w' hq=> ⟨hq.1.trans ?_,hq.2⟩
  unfold eqX
  rw [hn,if_pos ha]
 obtain⟨k,hk⟩: ∃k:Nat,cq9 (ts.map TyV.name) s.toList=k:=⟨_,(Int.toNat_of_nonneg Om).symm⟩
 have hkl:=fqK hk
 simp only [List.length_map] at hkl
 have hacc:iqG (ts.map TyV.key) s=ts[k].acc:=by
  unfold iqG
  rw [hn,hk,Int.toNat_natCast,List.getElem?_map,List.getElem?_eq_getElem hkl]
  rfl
 have h2:=hc k ts[k] (List.getElem?_eq_getElem hkl) 2 Om
 rcases lqo ts[k].acc with hp|hp
 ·refine(mqY g ts.length cap (ts.map TyV.name) frm s W Sp hcap hm' hc' k hk ts[k].acc h2 hp).mono fun e w' hq=> ⟨hq.1.trans ?_,hq.2⟩
  unfold eqX
  rw [hn,if_neg ha,hacc,if_pos hp]
 refine(lqn g ts.length cap (ts.map TyV.name) frm s W Sp hcap hm' hc' k hk ts[k].acc h2 hp hf hs).mono fun e w' hq=> ⟨hq.1.trans ?_,hq.2⟩
 unfold eqX
 rw [hn,if_neg ha,hacc,if_neg Om]
structure LdK (CE:aqc→Int) (defs:List UInt8→Option (List UInt8)) (dn:List (List UInt8)):Prop where
 dom: ∀s l,defs s=some l→s∈dn
 cnt:dn.length≤64
 out: ∀s l,defs s=some l→ ∀c,bq6 l= .ok c→ ∀p i f m ok W,aqy W ok c p i f m→Calls Tryz.prog 68 #[bqb c p i f m] W (iqw c (CE c) W)
 small: ∀s l c,defs s=some l→bq6 l= .ok c→(aqX c).sup.size≤1048576∧(aqX c).name.size≤1048576∧(aqX c).ifs.length≤64∧ ∀i∈(aqX c).ifs,i.size≤1048576
def rdD (CE:aqc→Int) (defs:List UInt8→Option (List UInt8)) (s:ByteArray):Except ByteArray (aqc×cqO):=match defs s.data.toList with
 |none=> .error eqG
 |some l=>gqV CE l s
def fqc (dn ks:List (List UInt8)):Prop:= ∃cs ls,ks=cs++ls∧0<cs.length∧cs.length≤26∧ls.Nodup∧ ∀x∈ls,x∈dn
theorem hqy {α:Type} [DecidableEq α]: ∀(l m:List α),l.Nodup→(∀x∈l,x∈m)→l.length≤m.length
 | [],m,_,_=>Nat.zero_le _
 |x::l,m,hn,hs=>by
  have hx:=hs x Sp
  have h1:=hqy l (m.erase x) (List.nodup_cons.1 hn).2 (fun y hy=> (List.mem_erase_of_ne (by
   intro e
   subst e
   exact(List.nodup_cons.1 hn).1 hy)).2 (hs y (by simp [hy])))
  have h2:=List.length_erase_of_mem hx
  have h3:0<m.length:=List.length_pos_of_mem hx
  simp only [List.length_cons]
  omega
theorem fqc.len {dn ks:List (List UInt8)} (h:fqc dn ks) (hd:dn.length≤64):0<ks.length∧ks.length≤90:=by
 obtain⟨cs,ls,rfl,h1,h2,h3,h4⟩:=h
 have:=hqy ls dn h3 h4
 rw [List.length_append]
 omega
theorem fqc.snoc {dn ks:List (List UInt8)} {s:List UInt8} (h:fqc dn ks) (hs:s∉ks) (hd:s∈dn):fqc dn (ks++ [s]):=by
 obtain⟨cs,ls,rfl,h1,h2,h3,h4⟩:=h
 refine⟨cs,ls++ [s],by simp,h1,h2, ?_, ?_⟩
 ·rw [List.nodup_append]
  refine⟨h3,by simp, ?_⟩
  intro a ha b hb e
  obtain rfl:b=s:=by simpa using hb
  subst e
  exact hs (by simp [ha])
 intro x hx
 rcases List.mem_append.1 hx with hx|hx
 ·exact h4 x hx
 obtain rfl:x=s:=by simpa using hx
 exact hd
def bqp.frp (L:bqp) (v:Value) (g:Nat):Prop:=g≠L.lb∧g≠L.bd∧g≠L.bf∧g≠L.bk∧g≠L.bg∧v.ownBlock≠some g
theorem bqp.frp_of {L:bqp} {v:Value} {g:Nat} (h:L.ro v g):L.frp v g:=⟨h.1,h.2.1,h.2.2.1,h.2.2.2.1,h.2.2.2.2.1,h.2.2.2.2.2.1⟩
structure LFr (B:Nat) (L:bqp) (v:Value) (W:World) (v':Value) (W':World):Prop where
 bel:Below B W W'
 blk: ∀g,g<W.heap.size→L.frp v g→W'.heap[g]?=W.heap[g]?
 fr: ∀g,g<W.heap.size→L.frp v g→L.frp v' g
theorem LFr.ro {B:Nat} {L:bqp} {v v':Value} {W W':World} (h:LFr B L v W v' W') (g:Nat) (hg:g<W.heap.size) (hr:L.ro v g):L.ro v' g:=by
 have:=h.fr g hg (bqp.frp_of hr)
 exact⟨this.1,this.2.1,this.2.2.1,this.2.2.2.1,this.2.2.2.2.1,this.2.2.2.2.2,hr.2.2.2.2.2.2⟩
theorem LFr.trans {B:Nat} {L:bqp} {v v1 v2:Value} {W W1 W2:World} (h:LFr B L v W v1 W1) (k:LFr B L v1 W1 v2 W2):LFr B L v W v2 W2:=
 ⟨h.bel.trans k.bel,fun g hg hr=> (k.blk g (Nat.lt_of_lt_of_le hg h.bel.size) (h.fr g hg hr)).trans (h.blk g hg hr),fun g hg hr=>k.fr g (Nat.lt_of_lt_of_le hg h.bel.size) (h.fr g hg hr)⟩
theorem LFr.of_below {B:Nat} {L:bqp} {v:Value} {W W':World} (hB:B≤W.heap.size) (h:Below W.heap.size W W'):LFr B L v W v W':=⟨h.mono hB,fun g hg _=>h.block g hg,fun _ _ h=>h⟩
theorem LFr.of_map {B b:Nat} {L:bqp} {v:Value} {W W':World} (hB:B≤W.heap.size) (hb:B≤b) (hr: ¬L.frp v b) (h:W.grownBy W' (some b)):LFr B L v W v W':=
 ⟨(Below.refl B W).grown h hB fun k hk=>by injection hk with hk;omega,fun g hg hrg=>h.block g hg fun e=>by injection e with e;subst e;exact hr hrg,fun _ _ h=>h⟩
theorem LFr.kept {B:Nat} {L:bqp} {v v':Value} {W W':World} (h:LFr B L v W v' W'):aqC (L.ro v) W W':=⟨h.bel.size,fun g hg hr o=>World.cell?_of_block (w:=W) (h.blk g hg (bqp.frp_of hr))⟩
def jqx (B:Nat) (L:bqp) (nd:Nat) (defs:List UInt8→Option (List UInt8)) (dn going:List (List UInt8)) (v:Value) (W:World) (r:Option ByteArray×LT) (e:Ending) (W':World):Prop:=
 ∃x ts' v',e= .returned x∧ErrIs r.1 x∧ts'.map TyV.key=r.2.ts∧LdG B L nd defs r.2.files (ts'.map TyV.name) going ts' v' W'∧fqc dn (ts'.map TyV.name)∧LFr B L v W v' W'
def oqL (CE:aqc→Int) (defs:List UInt8→Option (List UInt8)) (dn:List (List UInt8)) (n:Nat):Prop:= ∀(B:Nat) (L:bqp) (nd:Nat) (files:List UInt8→Option aqc) (ts:List TyV) (v:Value) (W:World) (going:List (List UInt8)) (s:ByteArray),
 LdG B L nd defs files (ts.map TyV.name) going ts v W→fqc dn (ts.map TyV.name)→s.size≤9223372036854775807→(dn.filter fun x=>decide (x∉going)).length<n→going.length+n≤1000→
  Calls Tryz.prog 27 #[.pointer (some ⟨L.lb,0,none⟩), .string s] W (jqx B L nd defs dn going v W (aqM (rdD CE defs) n going ⟨ts.map TyV.key,files⟩ s))
theorem LdG.lb_le {B:Nat} {L:bqp} {nd:Nat} {defs:List UInt8→Option (List UInt8)} {files:List UInt8→Option aqc} {ks going:List (List UInt8)} {ts:List TyV} {v:Value} {W:World} (h:LdG B L nd defs files ks going ts v W):B≤W.heap.size:=by
 have:=h.ord
 have:=h.lt
 omega
theorem gqp.iface {x:Value} {s:ByteArray} (h:gqp x s): ∃T y,x= .iface T y:=by
 cases h with
 |base s=>exact⟨_,_,rfl⟩
 |wrap v f s _=>exact⟨_,_,rfl⟩
theorem lqp (CE:aqc→Int) (defs:List UInt8→Option (List UInt8)) (dn:List (List UInt8)) (hcnt:dn.length≤64) (n:Nat) (hl:oqL CE defs dn n) (B:Nat) (L:bqp) (nd:Nat) (files:List UInt8→Option aqc) (ts:List TyV) (v:Value) (W:World) (going:List (List UInt8)) (frm to:ByteArray) (face:Bool)
  (h:LdG B L nd defs files (ts.map TyV.name) going ts v W) (hk:fqc dn (ts.map TyV.name)) (hf:frm.size≤1048576) (hs:to.size≤1048576) (hfu:(dn.filter fun x=>decide (x∉going)).length<n) (hgo:going.length+n≤1000):
  Calls Tryz.prog 47 #[.pointer (some ⟨L.lb,0,none⟩), .string frm, .string to, .bool face] W (jqx B L nd defs dn going v W (bqd (aqM (rdD CE defs) n going) ⟨ts.map TyV.key,files⟩ frm to face)):=by
 have HC:=Hq (hl B L nd files ts v W going to h hk Om hfu hgo)
 obtain⟨q,hq⟩: ∃q,aqM (rdD CE defs) n going ⟨ts.map TyV.key,files⟩ to=q:=⟨_,rfl⟩
 have HQ:=Hq (show bqd (aqM (rdD CE defs) n going) ⟨ts.map TyV.key,files⟩ frm to face=_ by unfold bqd;rw [hq])
 obtain⟨r,hr⟩: ∃r,bqd (aqM (rdD CE defs) n going) ⟨ts.map TyV.key,files⟩ frm to face=r:=⟨_,rfl⟩
 rw [hr] at HQ⊢
 rw [hq] at HC
 clear hl h hk hfu hgo hq hr
 go_enter Tryz.func47,Tryz.ntmps47
 go_wp2_with (go_at_call 27;refine aqa ?_)
 refine aqb ?_
 refine HC.out.mono ?_
 rintro e W1 ⟨x,ts1,v1,rfl,hx,hts,hg,hk,hb⟩
 obtain⟨q1,σ1⟩:=q
 cases q1 with
 |some er=>
  have HR:=Hq (show r=(some er,σ1) from HQ.out)
  have hx':gqp x er:=hx
  obtain⟨T,y,rfl⟩:=hx'.iface
  have HX:=Hq hx'
  have HTS:=Hq hts
  have HG:=Hq hg
  have HK:=Hq hk
  have HB:=Hq hb
  clear hx hx' hts hg hk hb HC HQ
  go_wp2_with fail
  go_ret
  rw [HR.out]
  exact⟨_,ts1,v1,rfl,gqp.wrap _ _ _ HX.out,HTS.out,HG.out,HK.out,HB.out⟩
 |none=>
  obtain rfl:x= .nilIface:=hx
  obtain⟨ts1',fl1⟩:=σ1
  simp only at hts hg
  subst hts
  have HQ1:=Hq (show r=if eqX (ts1.map TyV.key) frm to=false then(some kqc,⟨ts1.map TyV.key,fl1⟩) else if iqH (ts1.map TyV.key) to≠face then(some hqw,⟨ts1.map TyV.key,fl1⟩) else(none,⟨ts1.map TyV.key,fl1⟩) from HQ.out)
  have hkl:=hk.len hcnt
  simp only [List.length_map] at hkl
  obtain⟨g,cap,rfl,hcap,hgl,hrows⟩:=hg.rows hkl.1
  have c4:=hg.c4
  have HS:=Hq (fun W2 hw=>mq0 (ts:=ts1) (g:=g) (cap:=cap) frm to W2 hcap Om hw hf hs)
  have HRW:=Hq hrows
  have HG:=Hq hg
  have HK:=Hq hk
  have HB:=Hq hb
  clear hg hk hb HC HQ hrows
  obtain⟨sb,hsb⟩: ∃sb,eqX (ts1.map TyV.key) frm to=sb:=⟨_,rfl⟩
  rw [hsb] at HS HQ1
  have HSB:=Hq hsb
  clear hsb
  cases sb with
  |false=>
   have HR:=Hq (show r=(some kqc,⟨ts1.map TyV.key,fl1⟩) by rw [HQ1.out];rfl)
   clear HQ1
   go_wp2_with (first
    | (go_at_call 69;refine(HS.out _ HRW.out).mono ?_;rintro e w1 ⟨rfl,rfl⟩)
    | (go_at_call 45;refine(bqN _ Dd9 _).mono ?_;rintro e w1 ⟨rfl,rfl⟩))
   go_ret
   rw [HR.out]
   exact⟨_,ts1,_,rfl,gqp.base kqc,rfl,HG.out,HK.out,HB.out⟩
  |true=>
   have hat: ¬cq9 (ts1.map TyV.name) to.toList<0:=by
    intro ha
    have:=HSB.out
    unfold eqX at this
    rw [show(ts1.map TyV.key).map (·.1)=ts1.map TyV.name by rw [List.map_map];rfl,if_pos ha] at this
    cases this
   obtain⟨k,hk⟩: ∃k:Nat,cq9 (ts1.map TyV.name) to.toList=k:=⟨_,(Int.toNat_of_nonneg Om).symm⟩
   have hkn:=fqK hk
   simp only [List.length_map] at hkn
   have hacc:iqH (ts1.map TyV.key) to=(bits .and .i64 ts1[k].acc 512 !=0):=by
    unfold iqH iqG
    rw [show(ts1.map TyV.key).map (·.1)=ts1.map TyV.name by rw [List.map_map];rfl,hk,Int.toNat_natCast,List.getElem?_map,List.getElem?_eq_getElem hkn]
    rfl
   have h2:W1.cell? ⟨g,k*6+2,none⟩=some (.int .i64 ts1[k].acc):=HRW.out k ts1[k] (List.getElem?_eq_getElem hkn) 2 Om
   have HAT:=Hq (fun m:Nat=> (jqw g ts1.length cap (ts1.map TyV.name) to (W1.drewN m) Sp hcap Om (fun j t ht=>by
    rw [List.getElem?_map] at ht
    obtain⟨u,hu,rfl⟩:=Option.map_eq_some_iff.1 ht
    exact HRW.out j u hu 0 Om)).mono (R':=fun e w'=>e= .returned (.int .i64 k)∧w'=W1.drewN m) fun e w' hq=> ⟨hq.1.trans (by rw [hk]),hq.2.symm⟩)
   rw [hacc] at HQ1
   obtain⟨ac,hac⟩: ∃ac,ts1[k].acc=ac:=⟨_,rfl⟩
   rw [hac] at HQ1 h2
   have hk0:(0:Int)≤(k:Int):=by omega
   have hk1:(k:Int) < (ts1.length:Int):=by omega
   obtain⟨fb,hfb⟩: ∃fb,(bits .and .i64 ac 512 !=0)=fb:=⟨_,rfl⟩
   rw [hfb] at HQ1
   have HB2:=Hq (fun m=>HB.out.trans (LFr.of_below HG.out.lb_le (below_drewN (Below.refl W1.heap.size W1) m)))
   have HG2:=Hq (fun m=>HG.out.below (below_drewN (Below.refl W1.heap.size W1) m))
   clear hk hat hacc hac HSB
   go_wp2_with (go_at_call 69;refine(HS.out _ HRW.out).mono ?_;rintro e w1 ⟨rfl,rfl⟩)
   go_quiet ((go_at_call 70;exact Calls.quiet_of_same (HAT.out _)))
   all_goals
    cases fb<;>cases face
    ·have HR:=Hq (show r=(none,⟨ts1.map TyV.key,fl1⟩) by rw [HQ1.out];rfl)
     clear HQ1
     go_wp2_with fail
     go_ret
     rw [HR.out]
     exact⟨_,ts1,_,rfl,rfl,rfl,HG2.out _,HK.out,HB2.out _⟩
    ·have HR:=Hq (show r=(some hqw,⟨ts1.map TyV.key,fl1⟩) by rw [HQ1.out];rfl)
     clear HQ1
     go_wp2_with (go_at_call 45;refine(bqN _ Dd9 _).mono ?_;rintro e w1 ⟨rfl,rfl⟩)
     go_ret
     rw [HR.out]
     exact⟨_,ts1,_,rfl,gqp.base hqw,rfl,HG2.out _,HK.out,HB2.out _⟩
    ·have HR:=Hq (show r=(some hqw,⟨ts1.map TyV.key,fl1⟩) by rw [HQ1.out];rfl)
     clear HQ1
     go_wp2_with (go_at_call 45;refine(bqN _ Dd9 _).mono ?_;rintro e w1 ⟨rfl,rfl⟩)
     go_ret
     rw [HR.out]
     exact⟨_,ts1,_,rfl,gqp.base hqw,rfl,HG2.out _,HK.out,HB2.out _⟩
    have HR:=Hq (show r=(none,⟨ts1.map TyV.key,fl1⟩) by rw [HQ1.out];rfl)
    clear HQ1
    go_wp2_with fail
    go_ret
    rw [HR.out]
    exact⟨_,ts1,_,rfl,rfl,rfl,HG2.out _,HK.out,HB2.out _⟩
end Go.Proofs.YtdbniocnjhfhdaaGreatDoor
