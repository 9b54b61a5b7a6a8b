/- Part 15 of what the laws rest on: walks. Conditions: those that each theorem names. -/
import Derived.Test.YtdbniocnjhfhdaaGreatDoorB14
import Derived.Stop.Asserts
import Derived.RowKitTokens
set_option linter.unusedSimpArgs false
set_option linter.unusedVariables false
set_option maxRecDepth 100000
set_option maxHeartbeats 1000000
namespace Go.Proofs.YtdbniocnjhfhdaaGreatDoor
open Go Go.RowKit Lib
theorem lqs (A:Option Addr) (cap:Nat) (ns:List (List UInt8)) (s:ByteArray) (w:World) (hcap:ns.length≤cap) (hm:ns.length≤4611686018427387904) (hc: ∀j t,ns[j]?=some t→ ∃b off,A=some ⟨b,off,none⟩∧w.cell? ⟨b,off+j,none⟩=some (.string ⟨t.toArray⟩)):
  Calls Tryz.prog 57 #[.slice A ns.length cap, .string s] w fun e w'=>e= .returned (.bool (decide (s.toList∈ns)))∧w=w':=by
 have HC:=Hq hc
 clear hc
 go_enter Tryz.func57,Tryz.ntmps57
 go_wp2_with fail
 go_loop [5] (fun i=> ∃k:Nat,k≤ns.length∧i= .int .i64 k∧Hid (∀j,j<k→ ∀x,ns[j]?=some x→x≠s.toList)) (fun i=>ns.length - (RowKit.intOf i).toNat)
 case atStart=>exact⟨0,by omega,rfl,fun j hj=>absurd hj Om⟩
 case round=>
  obtain⟨k,hk,rfl,HN⟩:=hrel
  by_cases hlt:k<ns.length
  ·obtain⟨t,ht⟩: ∃t,ns[k]?=some t:=⟨_,List.getElem?_eq_getElem hlt⟩
   obtain⟨b,off,rfl,c0⟩:=HC.out k t ht
   have HT:=Hq ht
   clear ht
   by_cases he:t=s.toList
   ·have HR:=Hq (show decide (s.toList∈ns)=true by simpa using List.mem_of_getElem? (he▸HT.out))
    have hb0:(t==s.toList)=true:=by simp [he]
    clear he
    go_wp2_with fail
    go_ret
    exact⟨by rw [HR.out];rfl,rfl⟩
   have hb0:(t==s.toList)=false:=by simp [he]
   have HE:=Hq he
   clear he
   go_wp2_with fail
   go_round
   case rel=>exact⟨k+1,by omega,by go_num,fun j hj x hx=>by
    rcases Nat.lt_or_ge j k with h|h
    ·exact HN.out j h x hx
    obtain rfl:j=k:=by omega
    rw [HT.out] at hx
    injection hx with hx
    subst hx
    exact HE.out⟩
   case measure=>simp [RowKit.intOf];omega
  have HMI:=Hq (show decide (s.toList∈ns)=false by
   simp only [decide_eq_false_iff_not]
   intro hm
   obtain⟨j,hj⟩:=List.getElem?_of_mem hm
   exact HN.out j (by have:=(List.getElem?_eq_some_iff.1 hj).1;omega) _ hj rfl)
  go_wp2_with fail
  go_ret
  exact⟨by rw [HMI.out];rfl,rfl⟩
theorem gqX (s:ByteArray) (n:Nat):(s.extract 0 n).toList=s.data.toList.take n:=by
 rw [ByteArray.toList_eq,ByteArray.data_extract,Array.toList_extract,List.extract_eq_take_drop]
 simp
theorem jqA (l p:List UInt8):Lib.hasPrefix l p=(l.take p.length==p):=by
 unfold Lib.hasPrefix
 rw [Bool.eq_iff_iff,List.isPrefixOf_iff_prefix,List.prefix_iff_eq_take,beq_iff_eq]
 exact eq_comm
theorem mq1 (s:ByteArray) (w:World) (hs:s.size≤1048576):
  Calls Tryz.prog 35 #[.string s] w fun e w'=>e= .returned (.bool (gqr s.data.toList))∧w'=w:=by
 have HO:=Hq (show gqr s.data.toList=(((s.extract 0 5).toList== [106,97,118,97,47]) || ((s.extract 0 3).toList== [118,109,47])) by
  rw [gqX,gqX,gqr,jqA,jqA]
  rfl)
 have HF:=Hq (show∀n,s.size<n→ ∀p:List UInt8,p.length=n→((s.extract 0 n).toList==p)=false from fun n hn p hp=>by
  rw [gqX]
  have:s.data.toList.length=s.size:=by simp
  refine beq_eq_false_iff_ne.2 fun e=> ?_
  have:=congrArg List.length e
  simp at this
  omega)
 go_enter Tryz.func35,Tryz.ntmps35
 by_cases h5:5≤s.size
 ·have b5:decide ((5:Int)≤s.size)=true:=by simp;omega
  have b3:decide ((3:Int)≤s.size)=true:=by simp;omega
  cases e1:((s.extract 0 5).toList== [106,97,118,97,47])
  all_goals
   rw [e1] at HO
   go_wp2_with fail
   go_ret
   rw [HO.out]
   exact⟨rfl,rfl⟩
 have b5:decide ((5:Int)≤s.size)=false:=by simp;omega
 have e1:=HF.out 5 Om [106,97,118,97,47] rfl
 by_cases h3:3≤s.size
 ·have b3:decide ((3:Int)≤s.size)=true:=by simp;omega
  rw [e1] at HO
  clear e1
  go_wp2_with fail
  go_ret
  rw [HO.out]
  exact⟨rfl,rfl⟩
 have b3:decide ((3:Int)≤s.size)=false:=by simp;omega
 have e2:=HF.out 3 Om [118,109,47] rfl
 rw [e1,e2] at HO
 clear e1 e2
 go_wp2_with fail
 go_ret
 rw [HO.out]
 exact⟨rfl,rfl⟩
theorem fqd (s:ByteArray) (w:World) (hs:s.size≤1048576):Calls Tryz.prog 116 #[.string s] w fun e w'=>e= .returned (.string (bqC s))∧w=w':=by
 obtain⟨z,hz⟩: ∃z,Lib.lastIndexByte s 47=z:=⟨_,rfl⟩
 have HZ:=Hq (show bqC s=s.extract 0 z.toNat by unfold bqC;rw [hz])
 have HSP:=Hq (show(z= -1∧ ∀j,j<s.size→((s.data[j]!).toNat:Int)≠47)∨ ∃i:Nat,i<s.size∧z=i∧((s.data[i]!).toNat:Int)=47∧ ∀j,i<j→j<s.size→((s.data[j]!).toNat:Int)≠47 by have:=Lib.lastIndexByte_spec s 47;rw [hz] at this;exact this)
 clear hz
 go_enter Tryz.func116,Tryz.ntmps116
 go_wp2_with fail
 go_loop [3] (fun i=> ∃k:Nat,k≤s.size∧i= .int .i64 ((k:Int) - 1)∧Hid (∀j,k≤j→j<s.size→((s.data[j]!).toNat:Int)≠47)) (fun i=> (RowKit.intOf i+1).toNat)
 case atStart=>exact⟨s.size,Nat.le_refl _,rfl,fun j h1 h2=>absurd h2 Om⟩
 case round=>
  obtain⟨k,hk,rfl,HN⟩:=hrel
  rcases k with _|k
  ·have HZ2:=Hq (show bqC s=⟨#[]⟩ by
    rw [HZ.out]
    rcases HSP.out with⟨rfl,_⟩ | ⟨i,hi,_,h2,_⟩
    ·exact ByteArray.ext Sp
    exact absurd h2 (HN.out i Om hi))
   go_wp2_with fail
   go_ret
   exact⟨by rw [HZ2.out];rfl,rfl⟩
  have ek:((k+1:Nat):Int) - 1=k:=by omega
  rw [ek]
  have hlt:k<s.size:=by omega
  have hbb:s.data[k]! =s[k]'hlt:=by rw [getElem!_pos s.data k (by simpa using hlt)];rfl
  by_cases hs7:((s[k]'hlt).toNat:Int)=47
  ·have HZ2:=Hq (show bqC s=s.extract 0 k by
    rw [HZ.out]
    rcases HSP.out with⟨_,h⟩ | ⟨i,hi,rfl,h2,h3⟩
    ·exact absurd (by rw [hbb];exact hs7) (h k hlt)
    rcases Nat.lt_trichotomy i k with h|h|h
    ·exact absurd (by rw [hbb];exact hs7) (h3 k h hlt)
    ·subst h;rfl
    exact absurd h2 (HN.out i Om hi))
   have ht:((s[k]'hlt).toNat:Int)==47:=by simpa using hs7
   clear hbb
   go_wp2_with fail
   go_ret
   exact⟨by rw [HZ2.out];rfl,rfl⟩
  have HB:=Hq hbb
  have HS7:=Hq hs7
  have ht:(((s[k]'hlt).toNat:Int)==47)=false:=by simpa using hs7
  clear hbb hs7
  go_wp2_with fail
  go_round
  case rel=>exact⟨k,by omega,rfl,Hq fun j h1 h2=>by
   rcases Nat.lt_or_ge k j with h|h
   ·exact HN.out j Om h2
   obtain rfl:j=k:=by omega
   rw [HB.out]
   exact HS7.out⟩
  case measure=>simp [RowKit.intOf]
def oqM (ts:List TyK) (s:ByteArray):Int:=((ts[(cq9 (ts.map (·.1)) s.toList).toNat]?).map (·.2.2.1)).getD 0
def lqt (ts:List TyK) (frm to:ByteArray):Bool:=if cq9 (ts.map (·.1)) to.toList<0 then false else(bits .and .i64 (oqM ts to) 1 !=0) || ((bqC frm).toList==(bqC to).toList)
theorem oqc (ts:List TyK) (s:List UInt8):cq9 (ts.map (·.1)) s<0∨ ∃(k:Nat) (t:TyK),cq9 (ts.map (·.1)) s=(k:Int)∧ts[k]?=some t:=by
 unfold cq9
 cases e:(ts.map (·.1)).findIdx? (fun x=>x==s) with
 |none=>exact .inl Dd9
 |some i=>
  obtain⟨h,_⟩:=List.findIdx?_eq_some_iff_getElem.1 e
  exact .inr ⟨i,_,rfl,List.getElem?_eq_getElem (by simpa using h)⟩
theorem lqu (g cap:Nat) (ts:List TyK) (frm to:ByteArray) (w:World) (hcap:ts.length≤cap) (hm:ts.length≤4611686018427387904) (hf:frm.size≤1048576) (htl:to.size≤1048576)
  (hc: ∀j t,ts[j]?=some t→w.cell? ⟨g,j*6,none⟩=some (.string ⟨t.1.toArray⟩)∧w.cell? ⟨g,j*6+2,none⟩=some (.int .i64 t.2.2.1)):
  Calls Tryz.prog 92 #[.slice (some ⟨g,0,none⟩) ts.length cap, .string frm, .string to] w fun e w'=>e= .returned (.bool (lqt ts frm to))∧w=w':=by
 have HA:=Hq (iqL g ts.length cap (ts.map fun t:TyK=>t.1) to w Sp hcap hm (fun j t hj=>by
  rw [List.getElem?_map] at hj
  cases e:ts[j]? with
  |none=>rw [e] at hj;cases hj
  |some q=>rw [e] at hj;injection hj with hj;subst hj;exact(hc j q e).1))
 have HC:=Hq hc
 obtain⟨z,hz⟩: ∃z,cq9 (ts.map fun t:TyK=>t.1) to.toList=z:=⟨_,rfl⟩
 have HS:=Hq (show lqt ts frm to=if z<0 then false else(bits .and .i64 (oqM ts to) 1 !=0) || ((bqC frm).toList==(bqC to).toList) by unfold lqt;rw [hz])
 have HK:=Hq (show oqM ts to=((ts[z.toNat]?).map (·.2.2.1)).getD 0 by unfold oqM;rw [hz])
 have HLE:=Hq (show z<0∨ ∃(k:Nat) (t:TyK),z=(k:Int)∧ts[k]?=some t by have:=oqc ts to.toList;rw [hz] at this;exact this)
 rw [hz] at HA
 clear hz hc
 go_enter Tryz.func92,Tryz.ntmps92
 rcases HLE.out with hz| ⟨k,t,rfl,ht⟩
 ·have h0:decide (z<0)=true:=by simpa using hz
  have HS:=Hq (HS.out.trans (if_pos hz))
  clear hz
  go_wp2_with (go_at_call 16;refine(HA.out).mono ?_;rintro e w1 ⟨rfl,rfl⟩)
  go_ret
  exact⟨by rw [HS.out];rfl,rfl⟩
 have h0:decide ((k:Int) <0)=false:=by simp
 have hk:k<ts.length:=(List.getElem?_eq_some_iff.1 ht).1
 obtain⟨_,c2⟩:=HC.out k t ht
 have HK:=Hq (HK.out.trans (show((ts[((k:Nat):Int).toNat]?).map (·.2.2.1)).getD 0=t.2.2.1 by rw [Int.toNat_natCast,ht];rfl))
 have HS2:=Hq (HS.out.trans (if_neg Om))
 rw [HK.out] at HS2
 have HP1:=Hq (fun W=>fqd frm W hf)
 have HP2:=Hq (fun W=>fqd to W htl)
 clear ht HS HK HLE
 obtain⟨b,hb⟩: ∃b,(bits .and .i64 t.2.2.1 1 !=0)=b:=⟨_,rfl⟩
 rw [hb] at HS2
 cases b
 ·go_wp2_with (first
   | (go_at_call 16;refine(HA.out).mono ?_;rintro e w1 ⟨rfl,rfl⟩)
   | (go_at_call 116;first| (with_reducible refine(HP1.out _).mono ?_;rintro e w1 ⟨rfl,rfl⟩) | (with_reducible refine(HP2.out _).mono ?_;rintro e w1 ⟨rfl,rfl⟩)))
  go_ret
  exact⟨by rw [HS2.out];rfl,rfl⟩
 go_wp2_with (go_at_call 16;refine(HA.out).mono ?_;rintro e w1 ⟨rfl,rfl⟩)
 go_ret
 exact⟨by rw [HS2.out];rfl,rfl⟩
theorem hqA (b cap:Nat) (A:Option Addr) (ns:List (List UInt8)) (s:ByteArray) (w:World) (c0:w.cell? ⟨b,0,none⟩=some (.slice A ns.length cap)) (hcap:ns.length≤cap) (hm:ns.length≤65536) (hc: ∀j t,ns[j]?=some t→ ∃g,A=some ⟨g,0,none⟩∧w.cell? ⟨g,j*2,none⟩=some (.string ⟨t.toArray⟩)):
  Calls Tryz.prog 36 #[.pointer (some ⟨b,0,none⟩), .string s] w fun e w'=>e= .returned (.int .i64 (cq9 ns s.toList))∧w=w':=by
 have HC:=Hq hc
 clear hc
 go_enter Tryz.func36,Tryz.ntmps36
 go_wp2_with fail
 go_loop [5] (fun i=> ∃k:Nat,k≤ns.length∧i= .int .i64 k∧Hid (∀j,j<k→ ∀x,ns[j]?=some x→x≠s.toList)) (fun i=>ns.length - (RowKit.intOf i).toNat)
 case atStart=>exact⟨0,by omega,rfl,fun j hj=>absurd hj Om⟩
 case round=>
  obtain⟨k,hk,rfl,HN⟩:=hrel
  by_cases hlt:k<ns.length
  ·obtain⟨t,ht⟩: ∃t,ns[k]?=some t:=⟨_,List.getElem?_eq_getElem hlt⟩
   obtain⟨g,rfl,c2⟩:=HC.out k t ht
   have HT:=Hq ht
   clear ht
   by_cases he:t=s.toList
   ·have HR:=Hq (gqW (he▸HT.out) HN.out)
    have hb0:(t==s.toList)=true:=by simp [he]
    clear he
    go_wp2_with fail
    go_ret
    exact⟨by rw [HR.out];rfl,rfl⟩
   have hb0:(t==s.toList)=false:=by simp [he]
   have HE:=Hq he
   clear he
   go_wp2_with fail
   go_round
   case rel=>exact⟨k+1,by omega,by go_num,fun j hj x hx=>by
    rcases Nat.lt_or_ge j k with h|h
    ·exact HN.out j h x hx
    obtain rfl:j=k:=by omega
    rw [HT.out] at hx
    injection hx with hx
    subst hx
    exact HE.out⟩
   case measure=>simp [RowKit.intOf];omega
  have HMI:=Hq (fqJ (ns:=ns) (s:=s.toList) (fun j x hx=>HN.out j (by have:=(List.getElem?_eq_some_iff.1 hx).1;omega) x hx))
  go_wp2_with fail
  go_ret
  exact⟨by rw [HMI.out];rfl,rfl⟩
structure eqk where
 r:Nat
 ex:List Nat
def eqk.frp (L:eqk) (v:Nat→Value) (g:Nat):Prop:=g≠L.r∧ ∀j,j<3→(v j).ownBlock≠some g
def eqk.ro (L:eqk) (v:Nat→Value) (g:Nat):Prop:=L.frp v g∧g∉L.ex
def upd (v:Nat→Value) (j:Nat) (x:Value) (i:Nat):Value:=if i=j then x else v i
theorem mq2 (v:Nat→Value) (j:Nat) (x:Value):upd v j x j=x:=if_pos rfl
theorem lqv (v:Nat→Value) {j i:Nat} (x:Value) (h:i≠j):upd v j x i=v i:=if_neg h
def mq3 (B:Nat) (ok:Nat→Prop) (fs:List (List UInt8×List UInt8)) (u:Value) (W:World):Prop:= ∃qs:List (List UInt8×Value×List UInt8),qs.map (fun q=> (q.1,q.2.2))=fs∧W.ownsRow B 86 2 u fs.length (qs.flatMap fun q=> [.string ⟨q.1.toArray⟩,q.2.1])∧ ∀q∈qs,gqf W ok (some q.2.2) (some q.2.1)
def mq4 (B:Nat) (ok:Nat→Prop) (ts:List TyV) (u:Value) (W:World):Prop:=W.ownsRow B 39 6 u ts.length (bqE ts)∧ ∀t∈ts,iqI W ok t
abbrev ClQ:=aqc×Value×Value×Value×Value
def ClQ.cells (q:ClQ):List Value:=aqc.cells q.1 q.2.1 q.2.2.1 q.2.2.2.1 q.2.2.2.2
def mq5 (B:Nat) (ok:Nat→Prop) (cs:List aqc) (u:Value) (W:World):Prop:= ∃qs:List ClQ,qs.map (·.1)=cs∧W.ownsRow B 58 9 u cs.length (qs.flatMap ClQ.cells)∧ ∀q∈qs,aqy W ok q.1 q.2.1 q.2.2.1 q.2.2.2.1 q.2.2.2.2
section
variable {B:Nat} {ok ok':Nat→Prop} {u:Value} {W W':World}
theorem aqy.step {c:aqc} {p i f m:Value} (h:aqy W ok c p i f m) (hk:aqC ok W W') (ho: ∀g,g<W.heap.size→ok g→ok' g):aqy W' ok' c p i f m:=
 ((h.mono (ok':=fun g=>ok g∧ok' g) (fun g hg hk=> ⟨hk,ho g hg hk⟩)).keep (hk.mono fun g hg=>hg.1)).mono fun g _ hg=>hg.2
theorem mq3.keep {fs:List (List UInt8×List UInt8)} (h:mq3 B ok fs u W) (hb: ∀g,u.ownBlock=some g→W'.heap[g]?=W.heap[g]?) (hk:aqC ok W W') (ho: ∀g,g<W.heap.size→ok g→ok' g):mq3 B ok' fs u W':=by
 obtain⟨qs,h1,h2,h3⟩:=h
 exact⟨qs,h1,aqj h2 hb,fun q hq=> (h3 q hq).keep hk ho⟩
theorem mq4.keep {ts:List TyV} (h:mq4 B ok ts u W) (hb: ∀g,u.ownBlock=some g→W'.heap[g]?=W.heap[g]?) (hk:aqC ok W W') (ho: ∀g,g<W.heap.size→ok g→ok' g):mq4 B ok' ts u W':=⟨aqj h.1 hb,fun t ht=> (h.2 t ht).keep hk ho⟩
theorem mq5.keep {cs:List aqc} (h:mq5 B ok cs u W) (hb: ∀g,u.ownBlock=some g→W'.heap[g]?=W.heap[g]?) (hk:aqC ok W W') (ho: ∀g,g<W.heap.size→ok g→ok' g):mq5 B ok' cs u W':=by
 obtain⟨qs,h1,h2,h3⟩:=h
 exact⟨qs,h1,aqj h2 hb,fun q hq=> (h3 q hq).step hk ho⟩
end
structure RfG (B:Nat) (L:eqk) (fs:List (List UInt8×List UInt8)) (ts:List TyV) (cs:List aqc) (v:Nat→Value) (W:World):Prop where
 bx:Bx W L.r [v 0,v 1,v 2] 82
 hf:mq3 B (L.ro v) fs (v 0) W
 ht:mq4 B (L.ro v) ts (v 1) W
 hc:mq5 B (L.ro v) cs (v 2) W
 lo:B≤L.r
 exl: ∀x∈L.ex,x<W.heap.size
 exf: ∀x∈L.ex,L.frp v x
theorem fqO {w:World} {B:Nat} {e e':TypeId} {s n r:Nat} {u:Value} {xs vs:List Value} (h:w.ownsRow B e s u n xs) (hx:Bx w r vs e') (hne:e≠e'):u.ownBlock≠some r:=fun hg=>by
 rcases h.2 with⟨rfl,_⟩ | ⟨b,_,_,rfl,_,h1,_⟩
 ·cases hg
 simp only [Value.ownBlock,Option.some.injEq] at hg
 subst hg
 unfold Bx at hx
 rw [hx] at h1
 injection h1 with h1
 injection h1 with _ h2 _
 exact hne h2.symm
structure RFr (B:Nat) (L:eqk) (v:Nat→Value) (W:World) (v':Nat→Value) (W':World):Prop where
 bel:Below B W W'
 blk: ∀g,g<W.heap.size→L.frp v g→W'.heap[g]?=W.heap[g]?
 fr: ∀g,g<W.heap.size→L.frp v g→L.frp v' g
section
variable {B:Nat} {L:eqk} {fs:List (List UInt8×List UInt8)} {ts:List TyV} {cs:List aqc} {v v' v2:Nat→Value} {W W' W2:World}
theorem RFr.ro (h:RFr B L v W v' W') (g:Nat) (hg:g<W.heap.size) (hr:L.ro v g):L.ro v' g:=⟨h.fr g hg hr.1,hr.2⟩
theorem RFr.trans (h:RFr B L v W v' W') (k:RFr B L v' W' v2 W2):RFr B L v W v2 W2:=
 ⟨h.bel.trans k.bel,fun g hg hr=> (k.blk g (Nat.lt_of_lt_of_le hg h.bel.size) (h.fr g hg hr)).trans (h.blk g hg hr),fun g hg hr=>k.fr g (Nat.lt_of_lt_of_le hg h.bel.size) (h.fr g hg hr)⟩
theorem RFr.of_below (hB:B≤W.heap.size) (h:Below W.heap.size W W'):RFr B L v W v W':=⟨h.mono hB,fun g hg _=>h.block g hg,fun _ _ h=>h⟩
theorem RFr.kept (h:RFr B L v W v' W'):aqC (L.ro v) W W':=⟨h.bel.size,fun g hg hr o=>World.cell?_of_block (w:=W) (h.blk g hg hr.1)⟩
theorem Bx.rfr {g:Nat} {vs:List Value} {t:TypeId} (h:Bx W g vs t) (hf:RFr B L v W v' W') (hr:L.frp v g):Bx W' g vs t:=(hf.blk g h.lt hr).trans h
theorem RfG.lt (h:RfG B L fs ts cs v W):L.r<W.heap.size:=h.bx.lt
theorem RfG.le (h:RfG B L fs ts cs v W):B≤W.heap.size:=Nat.le_trans h.lo (Nat.le_of_lt h.lt)
theorem RfG.fo (h:RfG B L fs ts cs v W):W.ownsRow B 86 2 (v 0) fs.length ((h.hf.choose).flatMap fun q=> [.string ⟨q.1.toArray⟩,q.2.1]):=h.hf.choose_spec.2.1
theorem RfG.co (h:RfG B L fs ts cs v W):W.ownsRow B 58 9 (v 2) cs.length ((h.hc.choose).flatMap ClQ.cells):=h.hc.choose_spec.2.1
theorem RfG.own (h:RfG B L fs ts cs v W): ∀j,j<3→ ∀g,(v j).ownBlock=some g→B≤g∧g<W.heap.size∧g≠L.r∧ ∀i,i<3→i≠j→(v i).ownBlock≠some g:=by
 have a:=fqO h.fo h.bx Dd9
 have b:=fqO h.ht.1 h.bx Dd9
 have c:=fqO h.co h.bx Dd9
 intro j hj g hg
 have hcase:j=0∨j=1∨j=2:=by omega
 rcases hcase with rfl|rfl|rfl
 ·refine⟨(h.fo.lt g hg).1,(h.fo.lt g hg).2,fun e=>a (e▸hg),fun i hi hne=> ?_⟩
  have:i=1∨i=2:=by omega
  rcases this with rfl|rfl
  ·exact cq2 h.fo h.ht.1 Dd9 hg
  exact cq2 h.fo h.co Dd9 hg
 ·refine⟨(h.ht.1.lt g hg).1,(h.ht.1.lt g hg).2,fun e=>b (e▸hg),fun i hi hne=> ?_⟩
  have:i=0∨i=2:=by omega
  rcases this with rfl|rfl
  ·exact cq2 h.ht.1 h.fo Dd9 hg
  exact cq2 h.ht.1 h.co Dd9 hg
 refine⟨(h.co.lt g hg).1,(h.co.lt g hg).2,fun e=>c (e▸hg),fun i hi hne=> ?_⟩
 have:i=0∨i=1:=by omega
 rcases this with rfl|rfl
 ·exact cq2 h.co h.fo Dd9 hg
 exact cq2 h.co h.ht.1 Dd9 hg
theorem RfG.fresh (h:RfG B L fs ts cs v W) (g:Nat) (hg:W.heap.size≤g):L.ro v g:=⟨⟨by have:=h.lt;omega,fun j hj e=>by have:=(h.own j hj g e).2.1;omega⟩,fun e=>by have:=h.exl g e;omega⟩
theorem RfG.but (h:RfG B L fs ts cs v W) {S:List Nat} (hb:But W.heap.size S W W') (hS: ∀g∈S,g∈L.ex):RfG B L fs ts cs v W':=by
 have hk:aqC (L.ro v) W W':=aqC.of_but hb fun g hg hm=>hg.2 (hS g hm)
 have ho: ∀j,j<3→ ∀g,(v j).ownBlock=some g→W'.heap[g]?=W.heap[g]?:=fun j hj g hg=>hb.block g (h.own j hj g hg).2.1 fun hm=> (h.exf g (hS g hm)).2 j hj hg
 exact⟨h.bx.but hb fun hm=> (h.exf _ (hS _ hm)).1 rfl,h.hf.keep (ho 0 Om) hk fun _ _ h=>h,h.ht.keep (ho 1 Om) hk fun _ _ h=>h,h.hc.keep (ho 2 Om) hk fun _ _ h=>h,h.lo,fun x hx=>Nat.lt_of_lt_of_le (h.exl x hx) hb.size,h.exf⟩
theorem RfG.below (h:RfG B L fs ts cs v W) (hb:Below W.heap.size W W'):RfG B L fs ts cs v W':=h.but (S:= []) (But.of_below hb) Sp
theorem RfG.andEx (h:RfG B L fs ts cs v W) (hb:But W.heap.size L.ex W W') (xs:List Nat) (h1: ∀x∈xs,W.heap.size≤x) (h2: ∀x∈xs,x<W'.heap.size):RfG B { L with ex:=xs++L.ex } fs ts cs v W':=by
 have h':=h.but hb fun _ h=>h
 have hk:aqC (L.ro v) W W':=aqC.of_but hb fun g hg hm=>hg.2 hm
 have ho: ∀g,g<W.heap.size→L.ro v g→eqk.ro { L with ex:=xs++L.ex } v g:=fun g hg hr=> ⟨hr.1,fun hm=>by
  rcases List.mem_append.1 hm with hm|hm
  ·have:=h1 g hm
   omega
  exact hr.2 hm⟩
 have hw: ∀j,j<3→ ∀g,(v j).ownBlock=some g→W'.heap[g]?=W.heap[g]?:=fun j hj g hg=>hb.block g (h.own j hj g hg).2.1 fun hm=> (h.exf g hm).2 j hj hg
 refine⟨h'.bx,h.hf.keep (hw 0 Om) hk ho,h.ht.keep (hw 1 Om) hk ho,h.hc.keep (hw 2 Om) hk ho,h.lo,fun x hx=> ?_,fun x hx=> ?_⟩
 ·rcases List.mem_append.1 hx with hx|hx
  ·exact h2 x hx
  exact h'.exl x hx
 rcases List.mem_append.1 hx with hx|hx
 ·exact(h.fresh x (h1 x hx)).1
 exact h.exf x hx
theorem RfG.grow (h:RfG B L fs ts cs v W) (j:Nat) (hj:j<3) {g n c:Nat} (hb:Below B W W') (hg:W.grownBy W' (v j).ownBlock) (hgg:(v j).ownBlock=some g∨g=W.heap.size):
  RFr B L v W (upd v j (.slice (some ⟨g,0,none⟩) n c)) (W'.setCell ⟨L.r,j,none⟩ (.slice (some ⟨g,0,none⟩) n c))∧(∀x∈L.ex,L.frp (upd v j (.slice (some ⟨g,0,none⟩) n c)) x)∧g≠L.r∧
  (∀i,i<3→i≠j→ ∀k,(v i).ownBlock=some k→(W'.setCell ⟨L.r,j,none⟩ (.slice (some ⟨g,0,none⟩) n c)).heap[k]?=W.heap[k]?)∧
  Bx (W'.setCell ⟨L.r,j,none⟩ (.slice (some ⟨g,0,none⟩) n c)) L.r ([v 0,v 1,v 2].set j (.slice (some ⟨g,0,none⟩) n c)) 82:=by
 have hlt:=h.lt
 have hgr:g≠L.r:=by
  rcases hgg with e|e
  ·exact(h.own j hj g e).2.2.1
  omega
 have hfr: ∀q,q<W.heap.size→L.frp v q→L.frp (upd v j (.slice (some ⟨g,0,none⟩) n c)) q:=fun q hq hr=> ⟨hr.1,fun i hi e=>by
  by_cases hij:i=j
  ·subst hij
   rw [mq2] at e
   have e':g=q:=by simpa [Value.ownBlock] using e
   subst e'
   rcases hgg with e2|e2
   ·exact hr.2 i hi e2
   omega
  rw [lqv v _ hij] at e
  exact hr.2 i hi e⟩
 have hne:(v j).ownBlock≠some L.r:=fun e=> (h.own j hj _ e).2.2.1 rfl
 refine⟨⟨hb.setCell h.lo _,fun q hq hr=> (Below.heap_setCell _ _ _ _ (fun e=>hr.1 (by first|exact e|exact e.symm))).trans (hg.block q hq fun e=>hr.2 j hj e.symm),hfr⟩,fun x hx=>hfr x (h.exl x hx) (h.exf x hx),hgr,fun i hi hij k hk=> ?_, ?_⟩
 ·have h3:=h.own i hi k hk
  exact(Below.heap_setCell _ _ _ _ (fun e=>h3.2.2.1 (by first|exact e|exact e.symm))).trans (hg.block k h3.2.1 fun e=>h3.2.2.2 j hj (fun e=>hij e.symm) e.symm)
 exact Bx.set ((hg.block L.r hlt fun e=>hne e.symm).trans h.bx) j _
theorem RfG.addT (h:RfG B L fs ts cs v W) {t:TyV} {g c:Nat} (ho:W'.ownsRow B 39 6 (.slice (some ⟨g,0,none⟩) (ts.length+1) c) (ts.length+1) (bqE ts++t.cells)) (hb:Below B W W') (hg:W.grownBy W' (v 1).ownBlock) (hgg:(v 1).ownBlock=some g∨g=W.heap.size) (ht:iqI W (L.ro v) t):
  RfG B L fs (ts++ [t]) cs (upd v 1 (.slice (some ⟨g,0,none⟩) (ts.length+1) c)) (W'.setCell ⟨L.r,1,none⟩ (.slice (some ⟨g,0,none⟩) (ts.length+1) c)):=by
 obtain⟨F,f2,f3,f4,f5⟩:=h.grow 1 Om (n:=ts.length+1) (c:=c) hb hg hgg
 refine⟨f5,h.hf.keep (f4 0 Om Om) F.kept F.ro,⟨aqF (bqQ ho (by simpa using f3) _) Sp (by rw [cq0]),fun u hu=> ?_⟩,h.hc.keep (f4 2 Om Om) F.kept F.ro,h.lo,fun x hx=>Nat.lt_of_lt_of_le (h.exl x hx) F.bel.size,f2⟩
 rcases List.mem_append.1 hu with hu|hu
 ·exact(h.ht.2 u hu).keep F.kept F.ro
 obtain rfl:u=t:=by simpa using hu
 exact ht.keep F.kept F.ro
theorem RfG.addC (h:RfG B L fs ts cs v W) {q:ClQ} {g c:Nat} (ho:W'.ownsRow B 58 9 (.slice (some ⟨g,0,none⟩) (cs.length+1) c) (cs.length+1) (h.hc.choose.flatMap ClQ.cells++q.cells)) (hb:Below B W W') (hg:W.grownBy W' (v 2).ownBlock) (hgg:(v 2).ownBlock=some g∨g=W.heap.size) (hq:aqy W (L.ro v) q.1 q.2.1 q.2.2.1 q.2.2.2.1 q.2.2.2.2):
  RfG B L fs ts (cs++ [q.1]) (upd v 2 (.slice (some ⟨g,0,none⟩) (cs.length+1) c)) (W'.setCell ⟨L.r,2,none⟩ (.slice (some ⟨g,0,none⟩) (cs.length+1) c)):=by
 obtain⟨F,f2,f3,f4,f5⟩:=h.grow 2 Om (n:=cs.length+1) (c:=c) hb hg hgg
 obtain⟨qs,hqs⟩: ∃x,h.hc.choose=x:=⟨_,rfl⟩
 obtain⟨c1,c2,c3⟩:=h.hc.choose_spec
 rw [hqs] at ho c1 c2 c3
 refine⟨f5,h.hf.keep (f4 0 Om Om) F.kept F.ro,h.ht.keep (f4 1 Om Om) F.kept F.ro,⟨qs++ [q],by simp [c1],aqF (bqQ ho (by simpa using f3) _) Sp Sp,fun u hu=> ?_⟩,h.lo,fun x hx=>Nat.lt_of_lt_of_le (h.exl x hx) F.bel.size,f2⟩
 rcases List.mem_append.1 hu with hu|hu
 ·exact(c3 u hu).step F.kept F.ro
 obtain rfl:u=q:=by simpa using hu
 exact hq.step F.kept F.ro
theorem RfG.addF (h:RfG B L fs ts cs v W) {nm l:List UInt8} {x:Value} {g c:Nat} (ho:W'.ownsRow B 86 2 (.slice (some ⟨g,0,none⟩) (fs.length+1) c) (fs.length+1) ((h.hf.choose.flatMap fun q=> [.string ⟨q.1.toArray⟩,q.2.1])++ [.string ⟨nm.toArray⟩,x])) (hb:Below B W W') (hg:W.grownBy W' (v 0).ownBlock) (hgg:(v 0).ownBlock=some g∨g=W.heap.size) (hq:gqf W (L.ro v) (some l) (some x)):
  RfG B L (fs++ [(nm,l)]) ts cs (upd v 0 (.slice (some ⟨g,0,none⟩) (fs.length+1) c)) (W'.setCell ⟨L.r,0,none⟩ (.slice (some ⟨g,0,none⟩) (fs.length+1) c)):=by
 obtain⟨F,f2,f3,f4,f5⟩:=h.grow 0 Om (n:=fs.length+1) (c:=c) hb hg hgg
 obtain⟨qs,hqs⟩: ∃x,h.hf.choose=x:=⟨_,rfl⟩
 obtain⟨c1,c2,c3⟩:=h.hf.choose_spec
 rw [hqs] at ho c1 c2 c3
 refine⟨f5,⟨qs++ [(nm,x,l)],by simp [c1],aqF (bqQ ho (by simpa using f3) _) Sp Sp,fun u hu=> ?_⟩,h.ht.keep (f4 1 Om Om) F.kept F.ro,h.hc.keep (f4 2 Om Om) F.kept F.ro,h.lo,fun x hx=>Nat.lt_of_lt_of_le (h.exl x hx) F.bel.size,f2⟩
 rcases List.mem_append.1 hu with hu|hu
 ·exact(c3 u hu).keep F.kept F.ro
 obtain rfl:u=(nm,x,l):=by simpa using hu
 exact hq.keep F.kept F.ro
end
def noC:aqc:=⟨0,0, [],0,0,0, [], [], []⟩
def LT.cls (σ:LT):List aqc:=σ.ts.map fun t=> (σ.files t.1).getD noC
theorem hqB {σ:LT} {t:TyK} (h:t∈σ.ts):t.1∈σ.names:=List.mem_map.2 ⟨t,h,rfl⟩
theorem mq6 {s:ByteArray} {c:aqc} {t:cqO} {σ:LT} (hs:s.data.toList∉σ.names) (ht:t.name=s):(eqY s c t σ).cls=σ.cls++ [c]:=by
 unfold LT.cls eqY
 rw [List.map_append]
 congr 1
 ·apply List.map_congr_left
  intro u hu
  have:u.1≠s.data.toList:=fun e=>hs (e▸hqB hu)
  simp [this]
 simp [cqO.key,ht]
section
variable (ld:LT→ByteArray→Option ByteArray×LT) (P:LT→Prop) (hld: ∀σ s,P σ→P (ld σ s).2)
include hld
theorem hqC (σ:LT) (frm to:ByteArray) (fc:Bool) (h:P σ):P (bqd ld σ frm to fc).2:=by
 have h1:=hld σ to h
 unfold bqd
 rcases hq:ld σ to with⟨_|e,σ1⟩
 ·rw [hq] at h1
  simp only
  split
  ·exact h1
  split<;>exact h1
 rw [hq] at h1
 exact h1
theorem hqD (frm:ByteArray): ∀(l:List ByteArray) (σ:LT),P σ→P (bq1 ld frm l σ).2
 | [],σ,h=>h
 |t::r,σ,h=>by
  have h1:=hqC ld P hld σ frm t true h
  unfold bq1
  rcases hq:bqd ld σ frm t true with⟨_|e,σ1⟩
  ·rw [hq] at h1
   exact hqD frm r σ1 h1
  rw [hq] at h1
  exact h1
end
theorem gqY (rd:ByteArray→Except ByteArray (aqc×cqO)) (hrn: ∀s c t,rd s= .ok (c,t)→t.name=s) (P:LT→Prop) (hlast: ∀σ s c t,P σ→rd s= .ok (c,t)→s.data.toList∉σ.names→P (eqY s c t σ)): ∀(n:Nat) (going:List (List UInt8)) (σ:LT) (s:ByteArray),P σ→P (aqM rd n going σ s).2
 |0,going,σ,s,h=>h
 |n+1,going,σ,s,h=>by
  have hld: ∀σ s',P σ→P (aqM rd n (going++ [s.data.toList]) σ s').2:=fun σ s' h=>gqY rd hrn P hlast n _ σ s' h
  have hnm: ∀σ s' x,x∈(aqM rd n (going++ [s.data.toList]) σ s').2.names→x∈σ.names∨x∉going++ [s.data.toList]:=fun σ s' x h=>eq1 rd hrn n _ σ s' x h
  rw [aqM]
  split
  ·exact h
  split
  ·exact h
  rename_i h1 h2
  rcases hrd:rd s with e| ⟨c,t⟩
  ·exact h
  simp only
  have ha:=hqC _ P hld σ s t.sup false h
  have na:=dqy _ _ hnm σ s t.sup false s.data.toList
  rcases hq:bqd (aqM rd n (going++ [s.data.toList])) σ s t.sup false with⟨_|e,σ1⟩
  ·rw [hq] at ha na
   simp only at ha na⊢
   have hf:=hqD _ P hld s t.ifs σ1 ha
   have nf:=equ _ _ hnm s t.ifs σ1 s.data.toList
   rcases hw:bq1 (aqM rd n (going++ [s.data.toList])) s t.ifs σ1 with⟨_|e,σ2⟩
   ·rw [hw] at hf nf
    refine hlast _ _ _ _ hf hrd fun hm=> ?_
    rcases nf hm with h3|h3
    ·rcases na h3 with h4|h4
     ·exact h1 h4
     exact h4 Sp
    exact h3 Sp
   rw [hw] at hf
   exact hf
  rw [hq] at ha
  exact ha
def FOk (σ:LT):Prop:=26≤σ.ts.length∧ ∀i t,σ.ts[i]?=some t→(σ.files t.1).isSome=decide (26≤i)
theorem mq7 (rd:ByteArray→Except ByteArray (aqc×cqO)) (hrn: ∀s c t,rd s= .ok (c,t)→t.name=s) (n:Nat) (going:List (List UInt8)) (σ:LT) (s:ByteArray) (h:FOk σ):FOk (aqM rd n going σ s).2:=by
 refine gqY rd hrn FOk (fun σ s c t h hr hs=> ⟨by have:=h.1;simp [eqY];omega,fun i u hu=> ?_⟩) n going σ s h
 have hu':(σ.ts++ [t.key])[i]?=some u:=hu
 rw [List.getElem?_append] at hu'
 split at hu'
 ·have hm:=hqB (List.mem_of_getElem? hu')
  have:u.1≠s.data.toList:=fun e=>hs (e▸hm)
  show(if u.1=s.data.toList then some c else σ.files u.1).isSome=_
  rw [if_neg this]
  exact h.2 i u hu'
 rename_i hge
 have h26:=h.1
 obtain⟨h0,rfl⟩:i - σ.ts.length=0∧t.key=u:=by
  have:=List.getElem?_eq_some_iff.1 hu'
  obtain⟨hl,he⟩:=this
  simp at hl
  exact⟨hl,by simpa [hl] using he⟩
 show(if t.key.1=s.data.toList then some c else σ.files t.key.1).isSome=_
 rw [if_pos (by simp [cqO.key,hrn s c t hr])]
 simp
 omega
end Go.Proofs.YtdbniocnjhfhdaaGreatDoor
set_option maxHeartbeats 4000000
namespace Go.Proofs.YtdbniocnjhfhdaaGreatDoor
open Go Go.RowKit Lib Go.Extern.Stop Go.Stop Go.Extern
theorem As.valueOf71 (t:Addr) (w:World):(ReflectliteValue.unpack (.iface 71 (.pointer (some t)))).run Tryz.prog w
  = .ok (.agg #[.pointer (some ⟨2,71,none⟩), .pointer (some ⟨w.heap.size,0,none⟩), .int .u64 150]) (w.alloc (.cells #[.pointer (some t)] 71)):=by kernel_rfl
theorem As.type71 (a:Addr) (w:World):(ReflectliteValue.methodAny (ReflectliteValue.valueError "reflectlite.Value.Type" 0) (fun t _ _ _=>ReflectliteType.toType t) #[.agg #[.pointer (some ⟨2,71,none⟩), .pointer (some a), .int .u64 150]]).run Tryz.prog w
  = .ok (.iface 132 (.agg #[.pointer (some ⟨2,71,none⟩)])) w:=by kernel_rfl
theorem As.kind71 (w:World):((ReflectliteType.abiMethod fun t=> (fun a:Nat=>Value.int IntKind.u8 (a:Int)) <$>Rtype.kind t) #[.pointer (some ⟨2,71,none⟩)]).run Tryz.prog w= .ok (.int .u8 22) w:=by kernel_rfl
theorem As.kind66 (w:World):((ReflectliteType.abiMethod fun t=> (fun a:Nat=>Value.int IntKind.u8 (a:Int)) <$>Rtype.kind t) #[.pointer (some ⟨2,66,none⟩)]).run Tryz.prog w= .ok (.int .u8 24) w:=by kernel_rfl
theorem As.elem71 (w:World):(ReflectliteType.method ReflectliteType.elem #[.agg #[.pointer (some ⟨2,71,none⟩)]]).run Tryz.prog w= .ok (.iface 132 (.agg #[.pointer (some ⟨2,66,none⟩)])) w:=by kernel_rfl
theorem As.implements66 (w:World):(ReflectliteType.relation "Implements" ReflectliteType.implements_ #[.agg #[.pointer (some ⟨2,66,none⟩)], .iface 132 (.agg #[.pointer (some ⟨2,69,none⟩)])]).run Tryz.prog w= .ok (.bool true) w:=by kernel_rfl
theorem As.typeOf66 (v:Value) (w:World):(ReflectliteType.typeOf #[.iface 66 v]).run Tryz.prog w= .ok (.iface 132 (.agg #[.pointer (some ⟨2,66,none⟩)])) w:=by kernel_rfl
theorem As.typeOf150 (v:Value) (w:World):(ReflectliteType.typeOf #[.iface 150 v]).run Tryz.prog w= .ok (.iface 132 (.agg #[.pointer (some ⟨2,150,none⟩)])) w:=by kernel_rfl
theorem As.assignable66 (w:World):(ReflectliteType.relation "AssignableTo" ReflectliteType.assignableTo #[.agg #[.pointer (some ⟨2,66,none⟩)], .iface 132 (.agg #[.pointer (some ⟨2,66,none⟩)])]).run Tryz.prog w= .ok (.bool true) w:=by kernel_rfl
theorem As.assignable150 (w:World):(ReflectliteType.relation "AssignableTo" ReflectliteType.assignableTo #[.agg #[.pointer (some ⟨2,150,none⟩)], .iface 132 (.agg #[.pointer (some ⟨2,66,none⟩)])]).run Tryz.prog w= .ok (.bool false) w:=by kernel_rfl
theorem As.valueOf66 (s:ByteArray) (w:World):(ReflectliteValue.unpack (.iface 66 (.string s))).run Tryz.prog w
  = .ok (.agg #[.pointer (some ⟨2,66,none⟩), .pointer (some ⟨w.heap.size,0,none⟩), .int .u64 152]) (w.alloc (.cells #[.string s] 66)):=by kernel_rfl
theorem As.parts71 (a:Addr) (w:World):(ReflectliteValue.parts (.agg #[.pointer (some ⟨2,71,none⟩), .pointer (some a), .int .u64 150])).run Tryz.prog w= .ok (some (71,a,150)) w:=by kernel_rfl
theorem As.parts66 (a:Addr) (w:World):(ReflectliteValue.parts (.agg #[.pointer (some ⟨2,66,none⟩), .pointer (some a), .int .u64 152])).run Tryz.prog w= .ok (some (66,a,152)) w:=by kernel_rfl
theorem As.parts66a (a:Addr) (w:World):(ReflectliteValue.parts (.agg #[.pointer (some ⟨2,66,none⟩), .pointer (some a), .int .u64 408])).run Tryz.prog w= .ok (some (66,a,408)) w:=by kernel_rfl
theorem As.elemOf71 (w:World):(Rtype.elem? 71).run Tryz.prog w= .ok (some 66) w:=by kernel_rfl
theorem As.mk66 (p:Addr) (w:World):(ReflectliteValue.mk 66 p ReflectliteValue.flagAddr).run Tryz.prog w= .ok (.agg #[.pointer (some ⟨2,66,none⟩), .pointer (some p), .int .u64 408]) w:=by kernel_rfl
theorem As.direct66 (w:World):(Rtype.directlyAssignable 66 66).run Tryz.prog w= .ok true w:=by kernel_rfl
theorem As.as137 (v:Value) (w:World):(Instr.typeAssert (.iface 150 v) 69 137 true).run Tryz.prog w= .ok (.tuple #[.nilIface, .bool false]) w:=run_typeAssert_lacksB Tryz.underlying137 Kq9 Kq9 v 69 w
theorem As.as140 (v:Value) (w:World):(Instr.typeAssert (.iface 150 v) 69 140 true).run Tryz.prog w= .ok (.tuple #[.iface 150 v, .bool true]) w:=by kernel_rfl
theorem As.rlm (z:Sem Value) (f:TypeId→Addr→Nat→Nat→Sem Value) (v:Value):
  ReflectliteValue.method z f #[v]=(do match←ReflectliteValue.parts v with|none=>z|some (t,a,fl)=>f t a fl (fl%32)):=rfl
theorem As.isNil71 (a p:Addr) (W:World) (ha:W.cell? a=some (.pointer (some p))):
  (ReflectliteValue.method (ReflectliteValue.valueError "reflectlite.Value.IsNil" 0) ReflectliteValue.isNil #[.agg #[.pointer (some ⟨2,71,none⟩), .pointer (some a), .int .u64 150]]).run Tryz.prog W= .ok (.bool false) W:=by
 rw [As.rlm]
 simp only [Sem.run_bind,As.parts71,Result.andThen]
 simp [ReflectliteValue.isNil,loadVar,isAgg,underlying,Tryz.underlying71,ha,Result.andThen]
theorem As.elemV71 (a p:Addr) (W:World) (ha:W.cell? a=some (.pointer (some p))):
  (ReflectliteValue.method (ReflectliteValue.valueError "reflectlite.Value.Elem" 0) ReflectliteValue.elem #[.agg #[.pointer (some ⟨2,71,none⟩), .pointer (some a), .int .u64 150]]).run Tryz.prog W
   = .ok (.agg #[.pointer (some ⟨2,66,none⟩), .pointer (some p), .int .u64 408]) W:=by
 rw [As.rlm]
 simp only [Sem.run_bind,As.parts71,Result.andThen]
 simp [ReflectliteValue.elem,loadVar,isAgg,underlying,Tryz.underlying71,ha,Result.andThen,As.elemOf71,As.mk66]
theorem As.rls (v x:Value):ReflectliteValue.set #[v,x]=(do
  let (some (dst,a,fl),some (src,b,_)):=(←ReflectliteValue.parts v, ←ReflectliteValue.parts x)
   |unsupported (.noEntry "extern/(internal/reflectlite.Value).Set.zeroValue")
  if fl/ReflectliteValue.flagAddr%2==0 then unsupported (.noEntry "extern/(internal/reflectlite.Value).Set.unaddressable")
  let val←loadVar src b
  if←Rtype.directlyAssignable dst src then storeVar dst a val
  else if←Rtype.implements dst src then
   if(←Rtype.kind src)==20 then
    match val with
    | .nilIface=>unsupported (.noEntry "extern/reflectlite: a nil value of one interface type handed on as a value of another")
    |_=>storeVar dst a val
   else storeVar dst a (.iface src val)
  else panicString ("reflectlite.Set: value of type " ++(←Rtype.spelt src)++ " is not assignable to type " ++(←Rtype.spelt dst))
  pure (.tuple #[])):=rfl
theorem As.set66 (ta b:Addr) (s:ByteArray) (old:Value) (W:World) (hb:W.cell? b=some (.string s)) (ht:W.cell? ta=some old) (hf:W.frozen? ta=false):
  (ReflectliteValue.set #[.agg #[.pointer (some ⟨2,66,none⟩), .pointer (some ta), .int .u64 408], .agg #[.pointer (some ⟨2,66,none⟩), .pointer (some b), .int .u64 152]]).run Tryz.prog W
   = .ok (.tuple #[]) (W.setCell ta (.string s)):=by
 rw [As.rls]
 simp only [Sem.run_bind,As.parts66a,As.parts66,Result.andThen]
 simp [ReflectliteValue.flagAddr,loadVar,isAgg,underlying,Tryz.underlying66,hb,Result.andThen,As.direct66,storeVar,Value.cells,storeCells,Addr.add]
 rw [run_store Tryz.prog W ta _ _ (by rfl)]
 simp [ht,hf]
theorem oqN (t:Value) (w:World):Calls Tryz.prog 26 #[.nilIface,t] w fun e w'=>e= .returned (.bool false)∧w'=w:=by
 go_enter Tryz.func26,Tryz.ntmps26
 go_wp2
 go_ret
 exact⟨rfl,rfl⟩
theorem As.methodKind (h:Value) (w:World):(Go.method 361 132 (.agg #[h]) "Kind").run Tryz.prog w= .ok (192,h) w:=by kernel_rfl
theorem As.methodElem (h:Value) (w:World):(Go.method 361 132 (.agg #[h]) "Elem").run Tryz.prog w= .ok (202, .agg #[h]) w:=by kernel_rfl
theorem As.methodImplements (h:Value) (w:World):(Go.method 361 132 (.agg #[h]) "Implements").run Tryz.prog w= .ok (203, .agg #[h]) w:=by kernel_rfl
theorem As.methodAssignableTo (h:Value) (w:World):(Go.method 361 132 (.agg #[h]) "AssignableTo").run Tryz.prog w= .ok (200, .agg #[h]) w:=by kernel_rfl
theorem As.methodUnwrap (f v:Value) (w:World):(Go.method 361 150 (.agg #[f,v]) "Unwrap").run Tryz.prog w= .ok (211, .agg #[f,v]) w:=by kernel_rfl
theorem kqf (f:ByteArray) (T:TypeId) (y:Value) (w:World):Calls Tryz.prog 211 #[.agg #[.string f, .iface T y]] w fun e w'=>e= .returned (.iface T y)∧Below w.heap.size w w':=by
 go_enter Tryz.func211,Tryz.ntmps211
 go_wp2
 go_ret
 exact⟨rfl,Rf9.alloc Nr _⟩
theorem as44 {x:Value} {s:ByteArray} (hx:gqp x s) (t a:Nat) (old:Value) (W:World) (ha:W.cell? ⟨a,0,none⟩=some (.pointer (some ⟨t,0,none⟩))) (ht:W.cell? ⟨t,0,none⟩=some old) (hf:W.frozen? ⟨t,0,none⟩=false):
  Calls Tryz.prog 44 #[x, .iface 71 (.pointer (some ⟨t,0,none⟩)), .agg #[.pointer (some ⟨2,71,none⟩), .pointer (some ⟨a,0,none⟩), .int .u64 150], .iface 132 (.agg #[.pointer (some ⟨2,66,none⟩)])] W
   fun e W'=>e= .returned (.bool true)∧ ∃Wm,Below W.heap.size W Wm∧W'=Wm.setCell ⟨t,0,none⟩ (.string (dqv s)):=by
 have h41:= @run_callFunc_extern Tryz.prog 41 _ (fun args=>ReflectliteValue.unpack (args.getD 0 (.tuple #[]))) Tryz.func41 Kq9 Kq9 Kq9 Kq9
 have h64:= @run_callFunc_extern Tryz.prog 64 _ ReflectliteType.typeOf Tryz.func64 Kq9 Kq9 Kq9 Kq9
 have h200:= @run_callFunc_extern Tryz.prog 200 _ (ReflectliteType.relation "AssignableTo" ReflectliteType.assignableTo) Tryz.func200 Kq9 Kq9 Kq9 Kq9
 have h65:= @run_callFunc_extern Tryz.prog 65 _ (ReflectliteValue.method (ReflectliteValue.valueError "reflectlite.Value.Elem" 0) ReflectliteValue.elem) Tryz.func65 Kq9 Kq9 Kq9 Kq9
 have h66:= @run_callFunc_extern Tryz.prog 66 _ ReflectliteValue.set Tryz.func66 Kq9 Kq9 Kq9 Kq9
 have hal:a<W.heap.size:=World.block_lt_of_cell? W ⟨a,0,none⟩ ha
 have htl:t<W.heap.size:=World.block_lt_of_cell? W ⟨t,0,none⟩ ht
 have X0:=Hq (aql W [.pointer (some ⟨2,71,none⟩), .pointer (some ⟨a,0,none⟩), .int .u64 150] 100)
 have HX:=Hq hx
 have HA:=Hq ((World.cell?_alloc_lt W (.cells #[.pointer (some ⟨2,71,none⟩), .pointer (some ⟨a,0,none⟩), .int .u64 150] 100) ⟨a,0,none⟩ hal).trans ha)
 have HT:=Hq ((World.cell?_alloc_lt W (.cells #[.pointer (some ⟨2,71,none⟩), .pointer (some ⟨a,0,none⟩), .int .u64 150] 100) ⟨t,0,none⟩ htl).trans ht)
 have HF:=Hq ((World.frozen?_alloc_old W (.cells #[.pointer (some ⟨2,71,none⟩), .pointer (some ⟨a,0,none⟩), .int .u64 150] 100) ⟨t,0,none⟩ (Nat.ne_of_lt htl)).trans hf)
 clear hx ha ht hf
 go_enter Tryz.func44,Tryz.ntmps44
 go_wp2_with fail
 go_loopw [0] (fun v0 wr=> ∃x',v0=x'∧Hid (gqp x' s)∧Hid (Below (W.heap.size+1) (W.alloc (.cells #[.pointer (some ⟨2,71,none⟩), .pointer (some ⟨a,0,none⟩), .int .u64 150] 100)) wr)) (fun v0 _=>SizeOf.sizeOf v0)
 case atStart=>exact⟨x,rfl,HX,Hq Rf9⟩
 case round=>
  obtain⟨x',rfl,HE,HB⟩:=hrel
  have hsz:=HB.out.size
  simp only [World.size_alloc] at hsz
  have b0:=(HB.out.cell (p:=⟨W.heap.size,0,none⟩) Sp).trans (X0.out.cell 0 rfl)
  have b1:=(HB.out.cell (p:=⟨W.heap.size,1,none⟩) Sp).trans (X0.out.cell 1 rfl)
  have b2:=(HB.out.cell (p:=⟨W.heap.size,2,none⟩) Sp).trans (X0.out.cell 2 rfl)
  have ca:=(HB.out.cell (p:=⟨a,0,none⟩) Sd).trans HA.out
  have ct:=(HB.out.cell (p:=⟨t,0,none⟩) Sd).trans HT.out
  have zt:=(HB.out.frozen (p:=⟨t,0,none⟩) Sd).trans HF.out
  have mA:=As.methodAssignableTo
  have he:=HE.out
  cases he with
  |base=>
   unfold lqi
   have tO:=As.typeOf66
   have a66:=As.assignable66
   have v66:=As.valueOf66 (dqv s) wr
   have el:=As.elemV71 ⟨a,0,none⟩ ⟨t,0,none⟩ wr ca
   have st:=As.set66 ⟨t,0,none⟩ ⟨wr.heap.size,0,none⟩ (dqv s) old (wr.alloc (.cells #[.string (dqv s)] 66)) (by rw [World.cell?_alloc_at _ _ _ _ Sp];rfl) (by rw [World.cell?_alloc_lt _ _ _ Sd];exact ct) (by rw [World.frozen?_alloc_old _ _ _ Sd];exact zt)
   have HW:=Hq (((Below.refl W.heap.size W).alloc Nr (.cells #[.pointer (some ⟨2,71,none⟩), .pointer (some ⟨a,0,none⟩), .int .u64 150] 100)).trans ((HB.out.alloc hsz (.cells #[.string (dqv s)] 66)).mono Om))
   generalize hL:dqv s=L at*
   have HL:=Hq hL
   clear hL
   go_wp2
   go_ret
   exact⟨rfl,_,HW.out,by rw [HL.out]⟩
  |wrap v f _ hv=>
   obtain⟨T,y,rfl⟩:=hv.iface
   have HV:=Hq hv
   have tO:=As.typeOf150
   have a150:=As.assignable150
   have q137:=As.as137
   have q140:=As.as140
   have mU:=As.methodUnwrap
   clear hv
   go_wp2_with (go_at_call 211;refine(kqf _ _ _ _).mono ?_;rintro e w2 ⟨rfl,hb2⟩;refine aqa ?_)
   refine aqb ?_
   have HB2:=Hq (HB.out.trans (hb2.mono hsz))
   clear hb2
   go_wp2_with fail
   go_roundw
   case rel=>exact⟨_,rfl,HV,HB2⟩
   case measure=>simp;omega
theorem oqO {x:Value} {s:ByteArray} (hx:gqp x s) (t:Nat) (old:Value) (W:World) (hg:W.cell? ⟨0,0,none⟩=some (.iface 132 (.agg #[.pointer (some ⟨2,69,none⟩)]))) (ht:W.cell? ⟨t,0,none⟩=some old) (hf:W.frozen? ⟨t,0,none⟩=false):
  Calls Tryz.prog 26 #[x, .iface 71 (.pointer (some ⟨t,0,none⟩))] W fun e W'=>e= .returned (.bool true)∧ ∃Wm,Below W.heap.size W Wm∧W'=Wm.setCell ⟨t,0,none⟩ (.string (dqv s)):=by
 obtain⟨T,y,rfl⟩:=hx.iface
 have h41:= @run_callFunc_extern Tryz.prog 41 _ (fun args=>ReflectliteValue.unpack (args.getD 0 (.tuple #[]))) Tryz.func41 Kq9 Kq9 Kq9 Kq9
 have h42:= @run_callFunc_extern Tryz.prog 42 _ (ReflectliteValue.methodAny (ReflectliteValue.valueError "reflectlite.Value.Type" 0) (fun t _ _ _=>ReflectliteType.toType t)) Tryz.func42 Kq9 Kq9 Kq9 Kq9
 have h43:= @run_callFunc_extern Tryz.prog 43 _ (ReflectliteValue.method (ReflectliteValue.valueError "reflectlite.Value.IsNil" 0) ReflectliteValue.isNil) Tryz.func43 Kq9 Kq9 Kq9 Kq9
 have h192:= @run_callFunc_extern Tryz.prog 192 _ (ReflectliteType.abiMethod fun t=>do pure (.int .u8 (←Rtype.kind t))) Tryz.func192 Kq9 Kq9 Kq9 Kq9
 have h202:= @run_callFunc_extern Tryz.prog 202 _ (ReflectliteType.method ReflectliteType.elem) Tryz.func202 Kq9 Kq9 Kq9 Kq9
 have h203:= @run_callFunc_extern Tryz.prog 203 _ (ReflectliteType.relation "Implements" ReflectliteType.implements_) Tryz.func203 Kq9 Kq9 Kq9 Kq9
 have f41:=As.valueOf71 ⟨t,0,none⟩ W
 have f42:=As.type71
 have mK:=As.methodKind
 have mE:=As.methodElem
 have mI:=As.methodImplements
 have k71:=As.kind71
 have k66:=As.kind66
 have e71:=As.elem71
 have i66:=As.implements66
 have hlt:0<W.heap.size:=World.block_lt_of_cell? W ⟨0,0,none⟩ hg
 have htl:t<W.heap.size:=World.block_lt_of_cell? W ⟨t,0,none⟩ ht
 have n43:=As.isNil71 ⟨W.heap.size,0,none⟩ ⟨t,0,none⟩ ((W.alloc (.cells #[.pointer (some ⟨t,0,none⟩)] 71)).alloc (.cells #[.pointer (some ⟨2,71,none⟩), .pointer (some ⟨W.heap.size,0,none⟩), .int .u64 150] 100)) Sp
 have hg2:((W.alloc (.cells #[.pointer (some ⟨t,0,none⟩)] 71)).alloc (.cells #[.pointer (some ⟨2,71,none⟩), .pointer (some ⟨W.heap.size,0,none⟩), .int .u64 150] 100)).cell? ⟨0,0,none⟩=some (.iface 132 (.agg #[.pointer (some ⟨2,69,none⟩)])):=by
  rw [World.cell?_alloc_lt _ _ ⟨0,0,none⟩ Sp,World.cell?_alloc_lt _ _ ⟨0,0,none⟩ hlt];exact hg
 have HB:=Hq (((Below.refl W.heap.size W).alloc Nr (.cells #[.pointer (some ⟨t,0,none⟩)] 71)).alloc Sp (.cells #[.pointer (some ⟨2,71,none⟩), .pointer (some ⟨W.heap.size,0,none⟩), .int .u64 150] 100))
 have HA:=Hq (fun W2 (hw:W2=((W.alloc (.cells #[.pointer (some ⟨t,0,none⟩)] 71)).alloc (.cells #[.pointer (some ⟨2,71,none⟩), .pointer (some ⟨W.heap.size,0,none⟩), .int .u64 150] 100)))=>as44 hx t W.heap.size old W2 (by rw [hw];simp) (by rw [hw];exact(HB.out.cell (p:=⟨t,0,none⟩) htl).trans ht) (by rw [hw];exact(HB.out.frozen (p:=⟨t,0,none⟩) htl).trans hf))
 clear hx ht hf
 go_enter Tryz.func26,Tryz.ntmps26
 go_wp2_with (go_at_call 44;refine aqa ?_)
 refine aqb ?_
 refine(HA.out _ rfl).mono ?_
 rintro e w2 ⟨rfl,Wm,hb,rfl⟩
 have HB2:=Hq (HB.out.trans (hb.mono HB.out.size))
 clear hb HA
 go_wp2_with fail
 go_ret
 exact⟨rfl,Wm,HB2.out,rfl⟩
end Go.Proofs.YtdbniocnjhfhdaaGreatDoor
