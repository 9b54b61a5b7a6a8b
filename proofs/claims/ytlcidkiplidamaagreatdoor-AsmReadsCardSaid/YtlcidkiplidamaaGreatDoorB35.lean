/-
  What the laws rest on, part 35: walks of the program's functions and plain laws. Conditions: none but those that each theorem names.
-/
import Derived.Test.YtlcidkiplidamaaGreatDoorB00
import Derived.Test.YtlcidkiplidamaaGreatDoorB34
import Derived.Deep.RegionHeld2
import Derived.Test.YtlcidkiplidamaaGreatDoorB32
set_option linter.unusedSimpArgs false
set_option linter.unusedVariables false
set_option maxRecDepth 100000
set_option maxHeartbeats 4000000
namespace Go.Proofs.YtlcidkiplidamaaGreatDoor
open Go Go.RowKit Lib Go.Maps
def bqI (σ:AsK) (m:AsM) (ws:List ByteArray):Option AsK:=match σ.inside m ws with
 | .ok x=>some x
 | .error _=>none
theorem fq6 {cs cs':List Nat} {w w1 w':World} {ρ:Nat→Nat} {B kb:Nat} {p:Option AsK} {e:Ending} (g:Chg cs' w ρ w1 ρ) (h:cqh cs w1 ρ B kb p e w') (hB:B≤w.heap.size) (hl:Low w ρ B) (h0:0∉cs') (hs: ∀c∈cs,c∈ [1,3,9,10,11,12]) (hs': ∀c∈cs',c∈ [1,3,9,10,11,12]):cqh [1,3,9,10,11,12] w ρ B kb p e w':=by
 obtain⟨h1,h2⟩:=h
 refine⟨h1, ?_⟩
 cases p with
 |none=>exact(g.below hl hB h0).trans h2
 |some σ'=>
  obtain⟨ρ',V',t',a,b,c⟩:=h2
  exact⟨ρ',V',t',a,b,(g.mono hs').trans (c.mono hs)⟩
theorem gqH:(Tryz.prog.info? 136).map (fun i=> (i.zero,i.size,i.bytes))=some (some (.agg #[.string ⟨#[]⟩, .string ⟨#[]⟩, .string ⟨#[]⟩, .int .i64 0]),4,56):=by kernel_rfl
theorem iqD:(Tryz.prog.info? 186).map (fun i=> (i.zero,i.size,i.bytes))=some (some (.agg #[.string ⟨#[]⟩, .int .i64 0]),2,24):=by kernel_rfl
section
variable {w W2:World} {ρ:Nat→Nat} {B kb g6 cap6:Nat} {σ:AsK} {V:RkV} {m:AsM} {U:RtV} (h:RkC w ρ B kb σ V (aq4 m U)) (hso:σ.m.isSome=true) (hm:RtC w ρ B m U)
include h hso hm
theorem RkC.addT {x:AsT} (hg:w.grownBy W2 U.tv.ownBlock) (ho:W2.ownsRow B 136 4 (.slice (some ⟨g6,0,none⟩) (m.traps.length+1) cap6) (m.traps.length+1) (m.traps.flatMap AsT.cells++x.cells)) (hgg:U.tv.ownBlock=some g6∨w.heap.size≤g6):
  ∃(ρ2:Nat→Nat) (U2:RtV),RkC (W2.setCell ⟨kb,23,none⟩ (.slice (some ⟨g6,0,none⟩) (m.traps.length+1) cap6)) ρ2 B kb { σ with m:=some { m with traps:=m.traps++ [x] } } V (aq4 { m with traps:=m.traps++ [x] } U2)∧RtC (W2.setCell ⟨kb,23,none⟩ (.slice (some ⟨g6,0,none⟩) (m.traps.length+1) cap6)) ρ2 B { m with traps:=m.traps++ [x] } U2∧Chg [1,12] w ρ (W2.setCell ⟨kb,23,none⟩ (.slice (some ⟨g6,0,none⟩) (m.traps.length+1) cap6)) ρ2:=by
 have hgk:g6≠kb:=by
  rintro rfl
  rcases hgg with e|e
  ·exact absurd ((hm.traps.2 _ e).symm.trans h.kc) (by decide)
  have:=h.box.lt
  omega
 have hkU:U.tv.ownBlock≠some kb:=fun e=>absurd ((hm.traps.2 _ e).symm.trans h.kc) (by decide)
 have hbx:Bx W2 kb (aq3 σ V++aq4 m U) 80:=(hg.block kb h.box.lt (fun e=>hkU e.symm)).trans h.box
 obtain⟨hC,hl,hk,hoc⟩:=h.addR (w':=W2.setCell ⟨kb,23,none⟩ (.slice (some ⟨g6,0,none⟩) (m.traps.length+1) cap6)) (c:=12) hg.os hg.tape hg.output (by simpa using hg.size) hm.traps.2
  (fun q hq h1 h2=> (Below.heap_setCell _ _ _ _ h1).trans (hg.block q hq (fun e=>h2 e.symm))) (hbx.set 23 _) (aqY ho hgk _) hgg (by decide)
 refine⟨paint ρ g6 12,{ U with tv:= .slice (some ⟨g6,0,none⟩) (m.traps.length+1) cap6 },h.turn hC hl hk ?_ rfl rfl rfl rfl rfl (by intro c h1 h2 hm;simp at hm;omega),⟨hC.own hm.code (by decide),hC.own hm.labs (by decide),hC.own hm.jumps (by decide),⟨bqq hoc.1 (by simp) (by simp),hoc.2⟩,hm.none⟩,hC⟩
 have:=hbx.set 23 (.slice (some ⟨g6,0,none⟩) (m.traps.length+1) cap6)
 unfold aq3 at this⊢
 rw [hso] at this
 exact this
theorem RkC.addL {x:List UInt8×Nat} (hg:w.grownBy W2 U.lv.ownBlock) (ho:W2.ownsRow B 186 2 (.slice (some ⟨g6,0,none⟩) (m.labels.length+1) cap6) (m.labels.length+1) (m.labels.flatMap dqI++dqI x)) (hgg:U.lv.ownBlock=some g6∨w.heap.size≤g6):
  ∃(ρ2:Nat→Nat) (U2:RtV),RkC (W2.setCell ⟨kb,21,none⟩ (.slice (some ⟨g6,0,none⟩) (m.labels.length+1) cap6)) ρ2 B kb { σ with m:=some { m with labels:=m.labels++ [x] } } V (aq4 { m with labels:=m.labels++ [x] } U2)∧RtC (W2.setCell ⟨kb,21,none⟩ (.slice (some ⟨g6,0,none⟩) (m.labels.length+1) cap6)) ρ2 B { m with labels:=m.labels++ [x] } U2∧Chg [1,9] w ρ (W2.setCell ⟨kb,21,none⟩ (.slice (some ⟨g6,0,none⟩) (m.labels.length+1) cap6)) ρ2:=by
 have hgk:g6≠kb:=by
  rintro rfl
  rcases hgg with e|e
  ·exact absurd ((hm.labs.2 _ e).symm.trans h.kc) (by decide)
  have:=h.box.lt
  omega
 have hkU:U.lv.ownBlock≠some kb:=fun e=>absurd ((hm.labs.2 _ e).symm.trans h.kc) (by decide)
 have hbx:Bx W2 kb (aq3 σ V++aq4 m U) 80:=(hg.block kb h.box.lt (fun e=>hkU e.symm)).trans h.box
 obtain⟨hC,hl,hk,hoc⟩:=h.addR (w':=W2.setCell ⟨kb,21,none⟩ (.slice (some ⟨g6,0,none⟩) (m.labels.length+1) cap6)) (c:=9) hg.os hg.tape hg.output (by simpa using hg.size) hm.labs.2
  (fun q hq h1 h2=> (Below.heap_setCell _ _ _ _ h1).trans (hg.block q hq (fun e=>h2 e.symm))) (hbx.set 21 _) (aqY ho hgk _) hgg (by decide)
 refine⟨paint ρ g6 9,{ U with lv:= .slice (some ⟨g6,0,none⟩) (m.labels.length+1) cap6 },h.turn hC hl hk ?_ rfl rfl rfl rfl rfl (by intro c h1 h2 hm;simp at hm;omega),⟨hC.own hm.code (by decide),⟨bqq hoc.1 (by simp) (by simp),hoc.2⟩,hC.own hm.jumps (by decide),hC.own hm.traps (by decide),hm.none⟩,hC⟩
 have:=hbx.set 21 (.slice (some ⟨g6,0,none⟩) (m.labels.length+1) cap6)
 unfold aq3 at this⊢
 rw [hso] at this
 exact this
end
theorem kqc (ρ:Nat→Nat) (B kb:Nat) (σ:AsK) (V:RkV) (m:AsM) (U:RtV) (A:Option Addr) (n cap:Nat) (ws:List ByteArray) (w:World) (hK:RkC w ρ B kb σ V (aq4 m U)) (hso:σ.m.isSome=true) (hM:RtC w ρ B m U) (hw:WdA w (Un ρ) A n cap ws) (hz:SmW ws) (hn:0<n) (h1:ws.length=1) (hs:(ws.headD ⟨#[]⟩).data.toList= [101,110,100]):
  Calls Tryz.prog 62 #[.pointer (some ⟨kb,0,none⟩), .slice A n cap] w fun e w'=>e= .returned (.bool true)∧RkC w' ρ B kb { σ with m:=none } V (aq4 m.ff U)∧RtC w' ρ B m.ff U∧Chg [1] w ρ w' ρ:=by
 have hnl:=hw.len
 obtain⟨b,off,hA,hb,hub,hcc⟩:=hw.hat hn
 subst hA
 have hle:=hw.le
 have hmx:=hw.max
 obtain⟨s0,hs0⟩: ∃s,ws[0]?=some s:=⟨_,List.getElem?_eq_getElem (by omega)⟩
 have c0:=hcc 0 s0 hs0
 rw [Nat.add_zero] at c0
 have ht:s0.toList=s0.data.toList:=ByteArray.toList_eq _
 have HH:=Hq hK
 have hB:=hK.hB
 have HUB:=Hq hub
 have HCC:=Hq hcc
 have HZ:=Hq hz
 have hbk: ¬b=kb:=fun e=>by
  have h1:=hK.kc
  rw [←e,show ρ b=0 from hub] at h1
  omega
 have c11:=hK.box.cell 11 (show _=some (.bool m.first) from rfl)
 have z11:=hK.box.frozen 11
 have S1:=hK.setc 11 (.bool false) (σ':=σ) (V':=V) (t':=aq4 m.ff U) rfl rfl rfl rfl rfl rfl
 have K1:=Hq S1.1
 have G1:=Hq S1.2
 have M1:=Hq (show RtC (w.setCell ⟨kb,11,none⟩ (.bool false)) ρ B m.ff U from by
  have h:=hM.keep S1.2 (by intro c h1 h2 hm;simp at hm;omega)
  exact⟨h.code,h.labs,h.jumps,h.traps,h.none⟩)
 have hss:s0.data.toList= [101,110,100]:=by
  cases ws with
  |nil=>cases hs0
  |cons a l=>cases hs0;exact hs
 have e0:(s0.toList== [101,110,100])=true:=by rw [ht,hss];rfl
 have hn1:((n:Int)==1)=true:=by rw [hnl,h1];rfl
 have c10:=hK.box.cell 10 (show _=some (.bool σ.m.isSome) from rfl)
 have z10:=hK.box.frozen 10
 clear hK hM hw hz hcc hs0 ht hss hs hnl h1 S1
 go_enter Tryz.func62,Tryz.ntmps62
 go_wp2_with fail
 go_ret
 have S2:=K1.out.setc 10 (.bool false) (σ':={ σ with m:=none }) (V':=V) (t':=aq4 m.ff U) rfl rfl rfl rfl rfl rfl
 exact⟨rfl,S2.1,M1.out.keep S2.2 (by intro c h1 h2 hm;simp at hm;omega),G1.out.trans S2.2⟩
theorem kqd (ρ:Nat→Nat) (B kb:Nat) (σ:AsK) (V:RkV) (m:AsM) (U:RtV) (A:Option Addr) (n cap:Nat) (ws:List ByteArray) (w:World) (hK:RkC w ρ B kb σ V (aq4 m U)) (hso:σ.m.isSome=true) (hM:RtC w ρ B m U) (hw:WdA w (Un ρ) A n cap ws) (hz:SmW ws) (hn:0<n) (hne: ∀s∈ws,0<s.size) (hl:σ.c.pool.length≤900000) (hlc:m.mv.code.length≤900000) (hlj:m.jumps.length≤900000) (hll:m.labels.length≤900000) (hlt:m.traps.length≤900000) (hnd: ¬(ws.length=1∧(ws.headD ⟨#[]⟩).data.toList= [101,110,100])) (hin: ∀W:World,RkC W ρ B kb σ V (aq4 m.ff U)→RtC W ρ B m.ff U→WdA W (Un ρ) A n cap ws→Calls Tryz.prog 137 #[.pointer (some ⟨kb,0,none⟩), .slice A n cap] W (cqh [1,3,10,11] W ρ B kb (σ.instr m.ff ws))):
  Calls Tryz.prog 62 #[.pointer (some ⟨kb,0,none⟩), .slice A n cap] w (cqh [1,3,9,10,11,12] w ρ B kb (bqI σ m ws)):=by
 have hnl:=hw.len
 obtain⟨b,off,hA,hb,hub,hcc⟩:=hw.hat hn
 subst hA
 have hle:=hw.le
 have hmx:=hw.max
 obtain⟨s0,hs0⟩: ∃s,ws[0]?=some s:=⟨_,List.getElem?_eq_getElem (by omega)⟩
 have c0:=hcc 0 s0 hs0
 rw [Nat.add_zero] at c0
 have ht:s0.toList=s0.data.toList:=ByteArray.toList_eq _
 have HH:=Hq hK
 have hB:=hK.hB
 have HUB:=Hq hub
 have HCC:=Hq hcc
 have HZ:=Hq hz
 have hbk: ¬b=kb:=fun e=>by
  have h1:=hK.kc
  rw [←e,show ρ b=0 from hub] at h1
  omega
 have c11:=hK.box.cell 11 (show _=some (.bool m.first) from rfl)
 have z11:=hK.box.frozen 11
 have S1:=hK.setc 11 (.bool false) (σ':=σ) (V':=V) (t':=aq4 m.ff U) rfl rfl rfl rfl rfl rfl
 have K1:=Hq S1.1
 have G1:=Hq S1.2
 have M1:=Hq (show RtC (w.setCell ⟨kb,11,none⟩ (.bool false)) ρ B m.ff U from by
  have h:=hM.keep S1.2 (by intro c h1 h2 hm;simp at hm;omega)
  exact⟨h.code,h.labs,h.jumps,h.traps,h.none⟩)
 have hhd:ws.headD ⟨#[]⟩=s0:=by
  cases ws with
  |nil=>cases hs0
  |cons a l=>cases hs0;rfl
 rw [hhd] at hnd
 have HIE:=Hq (hqH σ m ws s0 hs0)
 have HW1:=Hq (hw.chg S1.2 (by decide))
 have hs0z:=hz s0 (List.mem_of_getElem? hs0)
 have hs0p:=hne s0 (List.mem_of_getElem? hs0)
 by_cases hlim:s0.data.toList= [108,105,109,105,116,115]
 ·have e0:(s0.toList== [101,110,100])=false:=by rw [ht,hlim];decide
  have e1:(s0.toList== [108,105,109,105,116,115])=true:=by rw [ht,hlim];rfl
  cases hff:m.first
  ·have HP:=Hq (show bqI σ m ws=none by
    unfold bqI
    rw [HIE.out,if_neg (by rw [hff];simp),if_neg (by rw [hlim];simp),if_neg (by rw [hlim];simp),if_neg (by rw [hlim];simp),fqZ (by rw [hhd,hlim];decide)])
   rw [hff] at c11
   clear hK hM hw hz hcc hs0 ht hlim hnl S1 hhd hnd hff hin hne
   go_enter Tryz.func62,Tryz.ntmps62
   go_wp2_with fail
   go_ret
   exact aqh HP.out (G1.out.below HH.out.low hB (by decide))
  rw [hff] at c11
  by_cases h3:ws.length=3
  case neg=>
   have HP:=Hq (show bqI σ m ws=none by
    unfold bqI
    rw [HIE.out,if_pos ⟨hff,hlim⟩,if_neg h3])
   have hn3:((n:Int) !=3)=true:=by rw [hnl];simp;omega
   clear hK hM hw hz hcc hs0 ht hlim hnl S1 hhd hnd hff hin hne h3
   go_enter Tryz.func62,Tryz.ntmps62
   go_wp2_with fail
   go_ret
   exact aqh HP.out (G1.out.below HH.out.low hB (by decide))
  have hn3:n=3:=by omega
  subst hn3
  obtain⟨s1,hs1⟩: ∃s,ws[1]?=some s:=⟨_,List.getElem?_eq_getElem (by omega)⟩
  obtain⟨s2,hs2⟩: ∃s,ws[2]?=some s:=⟨_,List.getElem?_eq_getElem (by omega)⟩
  have zs1:=hz s1 (List.mem_of_getElem? hs1)
  have zs2:=hz s2 (List.mem_of_getElem? hs2)
  have c1:=hcc 1 s1 hs1
  have c2:=hcc 2 s2 hs2
  have HPE:=Hq (show bqI σ m ws=((aqz s1.data.toList 0 255).bind fun a=> (aqz s2.data.toList 0 255).map fun b=> { σ with m:=some { m.ff with mv:={ m.mv with stack:=a,locals:=b } } }:Option AsK) by
   unfold bqI
   rw [HIE.out,if_pos ⟨hff,hlim⟩,if_pos h3,aqE hs1,aqE hs2]
   cases aqz s1.data.toList 0 255<;>cases aqz s2.data.toList 0 255<;>rfl)
  have c17:=hK.box.cell 17 (show _=some (.int .i64 m.mv.stack) from rfl)
  have z17:=hK.box.frozen 17
  have c18:=hK.box.cell 18 (show _=some (.int .i64 m.mv.locals) from rfl)
  have z18:=hK.box.frozen 18
  clear hK hM hw hz hcc hs0 ht hlim hnl S1 hhd hnd hff hin hne h3 hs1 hs2
  go_enter Tryz.func62,Tryz.ntmps62
  go_wp2_with (go_at_call 136;refine aqa ?_)
  refine aqb ?_
  refine(bqB s1 0 255 _ (by omega)).mono ?_
  rintro e w2 ⟨v1,rfl,hv1,hb2⟩
  have K2:=Hq (K1.out.below hb2)
  have e2:w2.cell? ⟨b,off+2,none⟩=some (.string s2):=(((G1.out.trans (Chg.of_below hb2)).cell0 (by decide) hb HUB.out (off+2))).trans c2
  have G2:=Hq (G1.out.trans (Chg.of_below hb2))
  have M2:=Hq (M1.out.below hb2)
  clear hb2
  go_wp2_with (go_at_call 136;refine aqa ?_)
  refine aqb ?_
  refine(bqB s2 0 255 _ (by omega)).mono ?_
  rintro e w3 ⟨v2,rfl,hv2,hb3⟩
  have K3:=Hq (K2.out.below hb3)
  have G3:=Hq (G2.out.trans (Chg.of_below hb3))
  have M3:=Hq (M2.out.below hb3)
  have k17:=K3.out.box.cell 17 (show _=some (.int .i64 m.mv.stack) from rfl)
  have y17:=K3.out.box.frozen 17
  have k18:=K3.out.box.cell 18 (show _=some (.int .i64 m.mv.locals) from rfl)
  have y18:=K3.out.box.frozen 18
  have S4:=K3.out.setc 17 (.int .i64 v1) (σ':=σ) (V':=V) (t':=aq4 { m.ff with mv:={ m.mv with stack:=v1 } } U) rfl rfl rfl rfl rfl rfl
  have S5:=S4.1.setc 18 (.int .i64 v2) (σ':={ σ with m:=some { m.ff with mv:={ m.mv with stack:=v1,locals:=v2 } } }) (V':=V) (t':=aq4 { m.ff with mv:={ m.mv with stack:=v1,locals:=v2 } } U) (by unfold aq3;rw [hso];rfl) rfl rfl rfl rfl rfl
  have K5:=Hq S5.1
  have G5:=Hq (G3.out.trans (S4.2.trans S5.2))
  have M5:=Hq (show RtC _ ρ B { m.ff with mv:={ m.mv with stack:=v1,locals:=v2 } } U from by
   have h:=M3.out.keep (S4.2.trans S5.2) (by intro c h1 h2 hm;simp at hm;omega)
   exact⟨h.code,h.labs,h.jumps,h.traps,h.none⟩)
  clear hb3 S4 S5
  have HV1:=Hq hv1
  have HV2:=Hq hv2
  obtain⟨p1,hp1⟩: ∃p,aqz s1.data.toList 0 255=p:=⟨_,rfl⟩
  obtain⟨p2,hp2⟩: ∃p,aqz s2.data.toList 0 255=p:=⟨_,rfl⟩
  rw [hp1] at HPE HV1⊢
  rw [hp2] at HPE HV2⊢
  clear hp1 hp2 hv1 hv2
  rcases p1 with _|q1
  ·have HP:=HPE
   go_wp2_with fail
   go_ret
   exact aqh HP.out (G5.out.below HH.out.low hB (by decide))
  rcases p2 with _|q2
  ·have HP:=HPE
   go_wp2_with fail
   go_ret
   exact aqh HP.out (G5.out.below HH.out.low hB (by decide))
  obtain rfl:=HV1.out q1 rfl
  obtain rfl:=HV2.out q2 rfl
  go_wp2_with fail
  go_ret
  exact aqs (V':=V) HPE.out K5.out ⟨_,rfl,M5.out⟩ (G5.out.mono (by simp))
 have e0lim: ¬(m.first=true∧s0.data.toList= [108,105,109,105,116,115]):=fun h=>hlim h.2
 have el:(s0.toList== [108,105,109,105,116,115])=false:=by rw [ht];exact beq_eq_false_iff_ne.2 hlim
 by_cases htr:s0.data.toList= [116,114,97,112]
 ·have e0:(s0.toList== [101,110,100])=false:=by rw [ht,htr];decide
  have e1:(s0.toList== [116,114,97,112])=true:=by rw [ht,htr];rfl
  have HPE:=Hq (show bqI σ m ws=(if ws.length=4 then some { σ with m:=some { m.ff with traps:=m.traps++ [⟨ws.getD 1 ⟨#[]⟩,ws.getD 2 ⟨#[]⟩,ws.getD 3 ⟨#[]⟩,0⟩] } }
     else if ws.length=5 then some { (σ.cls (ws.getD 4 ⟨#[]⟩)).2 with m:=some { m.ff with traps:=m.traps++ [⟨ws.getD 1 ⟨#[]⟩,ws.getD 2 ⟨#[]⟩,ws.getD 3 ⟨#[]⟩,(σ.cls (ws.getD 4 ⟨#[]⟩)).1⟩] } } else none) by
   unfold bqI
   rw [HIE.out,if_neg e0lim,if_neg (by rw [htr];simp),if_neg (by rw [htr];simp),if_pos htr]
   by_cases h4:ws.length=4
   ·rw [if_pos h4,if_pos h4]
   rw [if_neg h4,if_neg h4]
   by_cases h5:ws.length=5
   ·rw [if_pos h5,if_pos h5]
   rw [if_neg h5,if_neg h5])
  by_cases h45:ws.length≠4∧ws.length≠5
  ·have HP:=Hq (HPE.out.trans (by rw [if_neg h45.1,if_neg h45.2]))
   have hn4:((n:Int) !=4)=true:=by rw [hnl];simp;omega
   have hn5:((n:Int) !=5)=true:=by rw [hnl];simp;omega
   clear hK hM hw hz hcc hs0 ht htr hnl S1 hhd hnd hin hne h45 hlim e0lim
   go_enter Tryz.func62,Tryz.ntmps62
   go_wp2_with fail
   go_ret
   exact aqh HP.out (G1.out.below HH.out.low hB (by decide))
  obtain⟨s1,hs1⟩: ∃s,ws[1]?=some s:=⟨_,List.getElem?_eq_getElem (by omega)⟩
  obtain⟨s2,hs2⟩: ∃s,ws[2]?=some s:=⟨_,List.getElem?_eq_getElem (by omega)⟩
  obtain⟨s3,hs3⟩: ∃s,ws[3]?=some s:=⟨_,List.getElem?_eq_getElem (by omega)⟩
  rw [aqE hs1,aqE hs2,aqE hs3] at HPE
  have y1:=(G1.out.cell0 (by decide) hb HUB.out (off+1)).trans (hcc 1 s1 hs1)
  have y2:=(G1.out.cell0 (by decide) hb HUB.out (off+2)).trans (hcc 2 s2 hs2)
  have y3:=(G1.out.cell0 (by decide) hb HUB.out (off+3)).trans (hcc 3 s3 hs3)
  by_cases h4:ws.length=4
  ·have HP:=Hq (HPE.out.trans (by rw [if_pos h4]))
   have hn4:n=4:=by omega
   subst hn4
   clear hK hM hw hz hcc hs0 ht htr hnl S1 hhd hnd hin hne h45 hlim e0lim h4 hs1 hs2 hs3
   go_enter Tryz.func62,Tryz.ntmps62
   go_wp2_with fail
   obtain⟨wz,hwz⟩: ∃W,W=w.setCell ⟨kb,11,none⟩ (.bool false):=⟨_,rfl⟩
   rw [←hwz] at K1 M1 G1 y1 y2 y3⊢
   clear hwz
   have hbz:b<wz.heap.size:=Nat.lt_of_lt_of_le hb G1.out.size
   obtain⟨v1,v2,v3,v4,v5,v6,v7,v8,v9,v10,v11,v12⟩:=far b wz.heap.size hbz
   go_region_held2 (fun w'=>w'.cell? ⟨b,off+1,none⟩=some (.string s1)∧w'.cell? ⟨b,off+2,none⟩=some (.string s2)∧w'.cell? ⟨b,off+3,none⟩=some (.string s3)) (go_keep) (fail)
   obtain⟨wT,hwT⟩: ∃W,W=(wz.alloc (.cells #[.string s1, .string s2, .string s3, .int .i64 0] 136)).drew:=⟨_,rfl⟩
   rw [←hwT]
   have BT:=Hq (show Below wz.heap.size wz wT by rw [hwT];exact((Below.refl _ _).alloc (Nat.le_refl _) _).drew)
   have XT0:=Hq (show Bx wT wz.heap.size [.string s1, .string s2, .string s3, .int .i64 0] 136 by rw [hwT];exact aqo wz _ _)
   have FRT:=Hq (K1.out.low.fresh (Nat.le_refl wz.heap.size))
   clear hwT
   have KT:=Hq (K1.out.below BT.out)
   have MT:=Hq (M1.out.below BT.out)
   have GT:=Hq (G1.out.trans (Chg.of_below BT.out))
   have KZ:=KT
   have MZ:=MT
   have GZ:=GT
   have XT:=XT0
   have HR:=Hq KZ.out
   have HO:=Hq MZ.out.traps.1
   obtain⟨AT,kT,htv⟩:=aqf HO.out
   have htv':U.tv= .slice AT m.traps.length kT:=htv
   have HTV:=Hq htv'
   have c23:=KZ.out.box.cell 23 (show _=some U.tv from rfl)
   have z23:=KZ.out.box.frozen 23
   rw [htv'] at c23
   replace HO:=Hq (show World.ownsRow _ B 136 4 (.slice AT m.traps.length kT) m.traps.length (m.traps.flatMap AsT.cells) from by rw [←htv'];exact HO.out)
   have hBw:=KZ.out.hB
   have hkr:=KZ.out.box.lt
   have x0:=XT.out.cell 0 rfl
   have x1:=XT.out.cell 1 rfl
   have x2:=XT.out.cell 2 rfl
   have x3:=XT.out.cell 3 rfl
   have hnk:(Value.slice AT m.traps.length kT).ownBlock≠some kb:=fun e=>by
    have h1:=MZ.out.traps.2 kb (show U.tv.ownBlock=some kb by rw [HTV.out];exact e)
    rw [KZ.out.kc] at h1
    omega
   clear htv htv'
   go_wp2_with fail
   go_region_law (first
    | (refine aqt rfl (.tmp 114) (.tmp 116) 78 rfl Tryz.underlying78 gqH rfl (by omega) B rfl ((aqp HO.out (fun _ _=>rfl)).alloc _) rfl rfl (aqd _ _ _ _ (by first|rfl|omega| (simp<;>omega))) (by simp [Value.oneCell']) (by omega) (by simp only [maxLen];omega) (by omega) (by first|omega| (simp<;>omega)) ?_
       intro g6 cap6 W' ho hg hb hgg
       have HO6:=Hq ho
       have HG6:=Hq hg
       have X6:=Hq (show Bx W' kb (aq3 σ V++aq4 m.ff U) 80 from(hg.block kb (by first|omega| (simp;omega)) (fun e=>hnk e.symm)).trans ((Below.heap_alloc _ _ _ (by first|omega| (simp;omega))).trans HR.out.box))
       have c6:=X6.out.cell 23 rfl
       have z6:=X6.out.frozen 23
       have HGG:=Hq hgg
       clear ho hg hb hgg))
   all_goals
    go_wp2_with fail
    go_ret
    have KA:=HR.out.below ((Below.refl _ _).alloc (Nat.le_refl _) (.cells #[.string s1, .string s2, .string s3, .int .i64 0] 136))
    have MA:=MZ.out.below ((Below.refl _ _).alloc (Nat.le_refl _) (.cells #[.string s1, .string s2, .string s3, .int .i64 0] 136))
    have GA:=GZ.out.trans (Chg.of_below ((Below.refl _ _).alloc (Nat.le_refl _) (.cells #[.string s1, .string s2, .string s3, .int .i64 0] 136)))
    obtain⟨ρ9,U9,k9,m9,g9⟩:=KA.addT hso MA (x:=⟨s1,s2,s3,0⟩) (W2:=W') (g6:=g6) (cap6:=cap6) (show World.grownBy _ _ U.tv.ownBlock by rw [HTV.out];exact⟨HG6.out.os,HG6.out.tape,HG6.out.output,HG6.out.size,HG6.out.block⟩) HO6.out (show U.tv.ownBlock=some g6∨_ from by
     rcases HGG.out with e|e
     ·exact .inl (by rw [HTV.out];exact e)
     exact .inr (Nat.le_of_eq (by rw [e];first|rfl| (simp [World.drew];done) |simp)))
    exact aqs (V':=V) HP.out k9 ⟨_,rfl,m9⟩ ((GA.mono (by simp)).trans (g9.mono (by simp)))
  have h5:ws.length=5:=by
   by_cases h5:ws.length=5
   ·exact h5
   exact absurd ⟨h4,h5⟩ h45
  obtain⟨s4,hs4⟩: ∃s,ws[4]?=some s:=⟨_,List.getElem?_eq_getElem (by omega)⟩
  rw [aqE hs4] at HPE
  have zs4:=hz s4 (List.mem_of_getElem? hs4)
  have HP:=Hq (HPE.out.trans (by rw [if_neg h4,if_pos h5]))
  have y4:=(G1.out.cell0 (by decide) hb HUB.out (off+4)).trans (hcc 4 s4 hs4)
  have hn5:n=5:=by omega
  subst hn5
  clear hK hM hw hz hcc hs0 ht htr hnl S1 hhd hnd hin hne h45 hlim e0lim h4 h5 hs1 hs2 hs3 hs4
  go_enter Tryz.func62,Tryz.ntmps62
  go_wp2_with fail
  obtain⟨wz,hwz⟩: ∃W,W=w.setCell ⟨kb,11,none⟩ (.bool false):=⟨_,rfl⟩
  rw [←hwz] at K1 M1 G1 y1 y2 y3 y4⊢
  clear hwz
  have hbz:b<wz.heap.size:=Nat.lt_of_lt_of_le hb G1.out.size
  obtain⟨v1,v2,v3,v4,v5,v6,v7,v8,v9,v10,v11,v12⟩:=far b wz.heap.size hbz
  go_region_held2 (fun w'=>w'.cell? ⟨b,off+1,none⟩=some (.string s1)∧w'.cell? ⟨b,off+2,none⟩=some (.string s2)∧w'.cell? ⟨b,off+3,none⟩=some (.string s3)) (go_keep) (fail)
  obtain⟨wT,hwT⟩: ∃W,W=(wz.alloc (.cells #[.string s1, .string s2, .string s3, .int .i64 0] 136)).drew:=⟨_,rfl⟩
  rw [←hwT]
  have BT:=Hq (show Below wz.heap.size wz wT by rw [hwT];exact((Below.refl _ _).alloc (Nat.le_refl _) _).drew)
  have XT0:=Hq (show Bx wT wz.heap.size [.string s1, .string s2, .string s3, .int .i64 0] 136 by rw [hwT];exact aqo wz _ _)
  have FRT:=Hq (K1.out.low.fresh (Nat.le_refl wz.heap.size))
  clear hwT
  have KT:=Hq (K1.out.below BT.out)
  have MT:=Hq (M1.out.below BT.out)
  have GT:=Hq (G1.out.trans (Chg.of_below BT.out))
  have y4T:=(BT.out.cell (p:=⟨b,off+4,none⟩) hbz).trans y4
  go_wp2_with (go_at_call 64;refine aqa ?_)
  refine aqb ?_
  refine(cq4 ρ B kb σ V (aq4 m.ff U) s4 _ KT.out zs4 (by omega)).mono ?_
  rintro e w5 ⟨rfl,ρ5,pv5,hm5,hg5⟩
  have hb5:=hg5.blk wz.heap.size XT0.out.lt (by rw [FRT.out];simp)
  have XT5:=(show Bx w5 wz.heap.size [.string s1, .string s2, .string s3, .int .i64 0] 136 from hb5.1.trans XT0.out)
  have t3:=XT5.cell 3 rfl
  have f3:=XT5.frozen 3
  have XT:=Hq (XT5.set 3 (.int .i64 (σ.cls s4).1))
  simp only [List.set_cons_succ,List.set_cons_zero] at XT
  have KZ:=Hq (hm5.free (p:=⟨wz.heap.size,3,none⟩) (hb5.2.trans FRT.out) (.int .i64 (σ.cls s4).1))
  have M5:=MT.out.keep hg5 (by intro c h1 h2 hm;simp at hm;omega)
  have MZ:=Hq (M5.keep (w':=w5.setCell ⟨wz.heap.size,3,none⟩ (.int .i64 (σ.cls s4).1)) (ρ':=ρ5) (cs:= [0]) ((Chg.refl [0] w5 ρ5).cset (by rw [hb5.2,FRT.out];simp) 3 _) (by intro c h1 h2 hm;simp at hm;omega))
  have GZ:=Hq (aqO ((GT.out.mono (cs':= [1,3]) (by simp)).trans hg5) (p:=⟨wz.heap.size,3,none⟩) G1.out.size (.int .i64 (σ.cls s4).1))
  have hso2:(σ.cls s4).2.m.isSome=true:=hso
  clear hm5 hg5 hb5 XT5 M5 y4T y4 XT0
  obtain⟨w6,hw6⟩: ∃W,W=w5.setCell ⟨wz.heap.size,3,none⟩ (.int .i64 (σ.cls s4).1):=⟨_,rfl⟩
  go_wp2_with fail
  rw [←hw6] at XT KZ MZ GZ⊢
  clear hw6 t3 f3
  have HR:=Hq KZ.out
  have HO:=Hq MZ.out.traps.1
  obtain⟨AT,kT,htv⟩:=aqf HO.out
  have htv':U.tv= .slice AT m.traps.length kT:=htv
  have HTV:=Hq htv'
  have c23:=KZ.out.box.cell 23 (show _=some U.tv from rfl)
  have z23:=KZ.out.box.frozen 23
  rw [htv'] at c23
  replace HO:=Hq (show World.ownsRow _ B 136 4 (.slice AT m.traps.length kT) m.traps.length (m.traps.flatMap AsT.cells) from by rw [←htv'];exact HO.out)
  have hBw:=KZ.out.hB
  have hkr:=KZ.out.box.lt
  have x0:=XT.out.cell 0 rfl
  have x1:=XT.out.cell 1 rfl
  have x2:=XT.out.cell 2 rfl
  have x3:=XT.out.cell 3 rfl
  have hnk:(Value.slice AT m.traps.length kT).ownBlock≠some kb:=fun e=>by
   have h1:=MZ.out.traps.2 kb (show U.tv.ownBlock=some kb by rw [HTV.out];exact e)
   rw [KZ.out.kc] at h1
   omega
  clear htv htv'
  go_wp2_with fail
  go_region_law (first
   | (refine aqt rfl (.tmp 114) (.tmp 116) 78 rfl Tryz.underlying78 gqH rfl (by omega) B rfl ((aqp HO.out (fun _ _=>rfl)).alloc _) rfl rfl (aqd _ _ _ _ (by first|rfl|omega| (simp<;>omega))) (by simp [Value.oneCell']) (by omega) (by simp only [maxLen];omega) (by omega) (by first|omega| (simp<;>omega)) ?_
      intro g6 cap6 W' ho hg hb hgg
      have HO6:=Hq ho
      have HG6:=Hq hg
      have X6:=Hq (show Bx W' kb (aq3 (σ.cls s4).2 { V with pv:=pv5 }++aq4 m.ff U) 80 from(hg.block kb (by first|omega| (simp;omega)) (fun e=>hnk e.symm)).trans ((Below.heap_alloc _ _ _ (by first|omega| (simp;omega))).trans HR.out.box))
      have c6:=X6.out.cell 23 rfl
      have z6:=X6.out.frozen 23
      have HGG:=Hq hgg
      clear ho hg hb hgg))
  all_goals
   go_wp2_with fail
   go_ret
   have KA:=HR.out.below ((Below.refl _ _).alloc (Nat.le_refl _) (.cells #[.string s1, .string s2, .string s3, .int .i64 (σ.cls s4).1] 136))
   have MA:=MZ.out.below ((Below.refl _ _).alloc (Nat.le_refl _) (.cells #[.string s1, .string s2, .string s3, .int .i64 (σ.cls s4).1] 136))
   have GA:=GZ.out.trans (Chg.of_below ((Below.refl _ _).alloc (Nat.le_refl _) (.cells #[.string s1, .string s2, .string s3, .int .i64 (σ.cls s4).1] 136)))
   obtain⟨ρ9,U9,k9,m9,g9⟩:=KA.addT hso2 MA (x:=⟨s1,s2,s3,(σ.cls s4).1⟩) (W2:=W') (g6:=g6) (cap6:=cap6) (show World.grownBy _ _ U.tv.ownBlock by rw [HTV.out];exact⟨HG6.out.os,HG6.out.tape,HG6.out.output,HG6.out.size,HG6.out.block⟩) HO6.out (show U.tv.ownBlock=some g6∨_ from by
    rcases HGG.out with e|e
    ·exact .inl (by rw [HTV.out];exact e)
    exact .inr (Nat.le_of_eq (by rw [e];first|rfl| (simp [World.drew];done) |simp)))
   exact aqs (V':={ V with pv:=pv5 }) HP.out k9 ⟨_,rfl,m9⟩ ((GA.mono (by simp)).trans (g9.mono (by simp)))
 have et:(s0.toList== [116,114,97,112])=false:=by rw [ht];exact beq_eq_false_iff_ne.2 htr
 have hzp:s0.size - 1<s0.size:=by omega
 have hl0:s0.data.toList.length=s0.size:=Array.length_toList
 have hlast:s0.data.toList.getLastD 0=s0[s0.size - 1]'hzp:=by
  rw [List.getLastD_eq_getLast?,List.getLast?_eq_getElem?,hl0,aqv hzp]
  rfl
 have hwm:IntKind.i64.wrap ((s0.size:Int) - 1)=((s0.size - 1:Nat):Int):=by rw [IntWalk.i64_in _ (by omega)];omega
 have hm0:(0:Int)≤((s0.size - 1:Nat):Int):=by omega
 have hm1:((s0.size - 1:Nat):Int) < (s0.size:Int):=by omega
 have hm2:((s0.size - 1:Nat):Int)≤(s0.size:Int):=by omega
 obtain⟨q0,hq0⟩: ∃q,s0[s0.size - 1]'hzp=q:=⟨_,rfl⟩
 rw [hq0] at hlast
 by_cases hla:ws.length=1∧q0=58
 ·have hn1:n=1:=by omega
  subst hn1
  have ee:(s0.toList== [101,110,100])=false:=by rw [ht];exact beq_eq_false_iff_ne.2 (fun h=>hnd ⟨hla.1,h⟩)
  have q58:((q0.toNat:Int)==58)=true:=by rw [hla.2];rfl
  obtain⟨S,hS⟩: ∃S,s0.extract 0 (s0.size - 1)=S:=⟨_,rfl⟩
  have hSd:S.data.toList=s0.data.toList.dropLast:=by
   rw [←hS,aqK,List.drop_zero,List.dropLast_eq_take,hl0]
   rfl
  have hSs:S.size=s0.size - 1:=by rw [←hS,ByteArray.size_extract];omega
  have hSb:(⟨s0.data.toList.dropLast.toArray⟩:ByteArray)=S:=ByteArray.ext (Array.toList_inj.1 (by rw [←hSd]))
  have hSl:S.data.toList.length=S.size:=Array.length_toList
  have HPE:=Hq (show bqI σ m ws=if S.data.toList≠ []∧S.size≤255∧(58:UInt8)∉S.data.toList∧bql m.labels S=none then some { σ with m:=some { m.ff with labels:=m.labels++ [(S.data.toList,m.mv.code.length)] } } else none by
   unfold bqI
   rw [HIE.out,if_neg e0lim,if_neg (fun h=>hnd h),if_pos ⟨hla.1,by rw [hlast];exact hla.2⟩,hSb, ←hSd,hSl]
   by_cases hc:S.data.toList≠ []∧S.size≤255∧(58:UInt8)∉S.data.toList∧bql m.labels S=none
   ·rw [if_pos hc,if_pos hc]
   rw [if_neg hc,if_neg hc])
  have hSm:S.size≤65536:=by omega
  have HSL:=Hq hSl
  have c21:=K1.out.box.cell 21 (show _=some U.lv from rfl)
  have z21:=K1.out.box.frozen 21
  have c19:=K1.out.box.cell 19 (show _=some U.cv from rfl)
  obtain⟨AL,kL,hlv⟩:=aqf M1.out.labs.1
  have hlv':U.lv= .slice AL m.labels.length kL:=hlv
  obtain⟨AC,kC,hcv⟩:=aqf M1.out.code.1
  have hcv':U.cv= .slice AC m.mv.code.length kC:=hcv
  have HLV:=Hq hlv'
  rw [hlv'] at c21
  rw [hcv'] at c19
  have HPL:=Hq (dqq B kb _ ρ m.labels U.lv S _ K1.out.box rfl M1.out.labs (by omega))
  clear hK hM hw hz hcc hs0 ht htr hnl S1 hhd hnd hin hne hlim e0lim hla hl0 hlast hSs hSb hSl hSd hlv hlv' hcv hcv'
  by_cases l1:S.size<1
  ·have HP:=Hq (HPE.out.trans (if_neg (fun h=>h.1 (List.eq_nil_of_length_eq_zero (by rw [HSL.out];omega)))))
   have l1':(S.size:Int) <1:=by omega
   have GB:=G1
   go_enter Tryz.func62,Tryz.ntmps62
   go_wp2_with fail
   go_ret
   exact aqh HP.out (GB.out.below HH.out.low hB (by decide))
  have l1': ¬(S.size:Int) <1:=by omega
  by_cases l2:255<S.size
  ·have HP:=Hq (HPE.out.trans (if_neg (fun h=>by have:=h.2.1;omega)))
   have l2':(255:Int) < (S.size:Int):=by omega
   have GB:=G1
   go_enter Tryz.func62,Tryz.ntmps62
   go_wp2_with fail
   go_ret
   exact aqh HP.out (GB.out.below HH.out.low hB (by decide))
  have l2': ¬(255:Int) < (S.size:Int):=by omega
  obtain⟨lk,hlk⟩: ∃l,bql m.labels S=l:=⟨_,rfl⟩
  rcases lk with _|p
  case some=>
   have HP:=Hq (HPE.out.trans (if_neg (fun h=>by rw [hlk] at h;exact absurd h.2.2.2 (by simp))))
   rw [cqa hlk] at HPL
   have hp0:(0:Int)≤(p:Int):=by omega
   have GB:=G1
   clear hlk
   go_enter Tryz.func62,Tryz.ntmps62
   go_wp2_with (go_at_call 67;refine HPL.out.mono ?_;rintro e w2 ⟨rfl,rfl⟩)
   go_ret
   exact aqh HP.out (GB.out.below HH.out.low hB (by decide))
  rw [dqu hlk] at HPL
  have HLK:=Hq hlk
  clear hlk
  have hnl:S.data.toList≠ []:=fun e=>by have:=HSL.out;rw [e] at this;simp at this;omega
  have HNL:=Hq hnl
  clear hnl
  go_enter Tryz.func62,Tryz.ntmps62
  go_wp2_with (go_at_call 67;refine HPL.out.mono ?_;rintro e w2 ⟨rfl,rfl⟩)
  go_loopw [13] (fun iv wr=> ∃i:Nat,iv= .int .i64 i∧i≤S.size∧Hid (∀q:Nat,q<i→S.data.toList[q]?≠some 58)∧Hid (wr=w.setCell ⟨kb,11,none⟩ (.bool false))) (fun i _=>S.size - (RowKit.intOf i).toNat)
  case atStart=>exact⟨0,rfl,by omega,Hq (fun q h=>absurd h (by omega)),Hq rfl⟩
  case round=>
   obtain⟨i,rfl,hi,HN,HW⟩:=hrel
   have HW':=Hq HW.out
   obtain rfl:=HW.out
   have GB:=G1
   by_cases hlt:i<S.size
   ·have hlt':(i:Int) < (S.size:Int):=by omega
    have hi0:(0:Int)≤(i:Int):=by omega
    have a1:S.data.toList[i]?=some (S[i]'hlt):=aqv hlt
    by_cases he:(S[i]'hlt)=58
    ·have qe:(((S[i]'hlt).toNat:Int)==58)=true:=by rw [he];rfl
     have HP:=Hq (HPE.out.trans (if_neg (fun h=>h.2.2.1 (List.mem_of_getElem? (a1.trans (by rw [he]))))))
     clear a1 he
     go_wp2_with fail
     go_ret
     exact aqh HP.out (GB.out.below HH.out.low hB (by decide))
    have qe:(((S[i]'hlt).toNat:Int)==58)=false:=by rw [beq_eq_false_iff_ne];intro e;exact he (UInt8.toNat_inj.1 (by rw [show(S[i]'hlt).toNat=58 by omega];rfl))
    have HN2:=Hq (show∀q:Nat,q<i+1→S.data.toList[q]?≠some 58 from fun q h=>by
     rcases Nat.lt_or_ge q i with hq|hq
     ·exact HN.out q hq
     obtain rfl:q=i:=by omega
     rw [a1]
     exact fun e=>he (Option.some.inj e))
    clear a1 he
    go_wp2_with fail
    go_roundw
    case rel=>exact⟨i+1,by go_num,by omega,HN2,Hq (by first|rfl|trivial)⟩
    case measure=>simp [RowKit.intOf];omega
   have hlt': ¬(i:Int) < (S.size:Int):=by omega
   have HP:=Hq (HPE.out.trans (if_pos ⟨HNL.out,by omega,fun h=>by
    obtain⟨q,hq⟩:=List.mem_iff_getElem?.1 h
    have:=(List.getElem?_eq_some_iff.1 hq).1
    exact HN.out q (by rw [HSL.out] at this;omega) hq,HLK.out⟩))
   obtain⟨wz,hwz⟩: ∃W,W=w.setCell ⟨kb,11,none⟩ (.bool false):=⟨_,rfl⟩
   go_wp2_with fail
   rw [←hwz] at K1 M1 G1 c21 z21 c19⊢
   clear hwz HW' HW GB
   have HO:=Hq (show World.ownsRow _ B 186 2 (.slice AL m.labels.length kL) m.labels.length (m.labels.flatMap dqI) from by rw [←HLV.out];exact M1.out.labs.1)
   have hBw:=K1.out.hB
   have hkr:=K1.out.box.lt
   have hnk:(Value.slice AL m.labels.length kL).ownBlock≠some kb:=fun e=>by
    have h1:=M1.out.labs.2 kb (show U.lv.ownBlock=some kb by rw [HLV.out];exact e)
    rw [K1.out.kc] at h1
    omega
   go_region_law (first
    | (refine aqt rfl (.tmp 165) (.tmp 174) 76 rfl Tryz.underlying76 iqD rfl (by omega) B rfl ((aqp HO.out (fun _ _=>rfl)).alloc _) rfl rfl (aqd _ _ _ _ (by first|rfl|omega| (simp<;>omega))) (by simp [Value.oneCell']) (by omega) (by simp only [maxLen];omega) (by omega) (by first|omega| (simp<;>omega)) ?_
       intro g6 cap6 W' ho hg hb hgg
       have HO6:=Hq ho
       have HG6:=Hq hg
       have X6:=Hq (show Bx W' kb (aq3 σ V++aq4 m.ff U) 80 from(hg.block kb (by first|omega| (simp;omega)) (fun e=>hnk e.symm)).trans ((Below.heap_alloc _ _ _ (by first|omega| (simp;omega))).trans K1.out.box))
       have c6:=X6.out.cell 21 rfl
       have z6:=X6.out.frozen 21
       have HGG:=Hq hgg
       clear ho hg hb hgg))
   all_goals
    go_wp2_with fail
    go_ret
    have KA:=K1.out.below ((Below.refl _ _).alloc (Nat.le_refl _) (.cells #[.string S, .int .i64 m.mv.code.length] 186))
    have MA:=M1.out.below ((Below.refl _ _).alloc (Nat.le_refl _) (.cells #[.string S, .int .i64 m.mv.code.length] 186))
    have GA:=G1.out.trans (Chg.of_below ((Below.refl _ _).alloc (Nat.le_refl _) (.cells #[.string S, .int .i64 m.mv.code.length] 186)))
    obtain⟨ρ9,U9,k9,m9,g9⟩:=KA.addL hso MA (x:=(S.data.toList,m.mv.code.length)) (W2:=W') (g6:=g6) (cap6:=cap6) (show World.grownBy _ _ U.lv.ownBlock by rw [HLV.out];exact⟨HG6.out.os,HG6.out.tape,HG6.out.output,HG6.out.size,HG6.out.block⟩) HO6.out (show U.lv.ownBlock=some g6∨_ from by
     rcases HGG.out with e|e
     ·exact .inl (by rw [HLV.out];exact e)
     exact .inr (Nat.le_of_eq (by rw [e];first|rfl| (simp [World.drew];done) |simp)))
    exact aqs (V':=V) HP.out k9 ⟨_,rfl,m9⟩ ((GA.mono (by simp)).trans (g9.mono (by simp)))
 have HPE:=Hq (show bqI σ m ws=σ.instr m.ff ws by
  unfold bqI
  rw [HIE.out,if_neg e0lim,if_neg (fun h=>hnd h),if_neg (fun h=>hla ⟨h.1,by rw [←hlast];exact h.2⟩),if_neg htr]
  cases σ.instr m.ff ws<;>rfl)
 have HIN:=Hq (hin _ K1.out M1.out HW1.out)
 rw [HPE.out]
 by_cases h1:ws.length=1
 ·have hn1:n=1:=by omega
  subst hn1
  have ee:(s0.toList== [101,110,100])=false:=by rw [ht];exact beq_eq_false_iff_ne.2 (fun h=>hnd ⟨h1,h⟩)
  have q58:((q0.toNat:Int)==58)=false:=by rw [beq_eq_false_iff_ne];intro e;exact hla ⟨h1,UInt8.toNat_inj.1 (by rw [show q0.toNat=58 by omega];rfl)⟩
  clear hK hM hw hz hcc hs0 ht htr hnl S1 hhd hnd hin hne hlim e0lim hla hl0 hlast h1
  go_enter Tryz.func62,Tryz.ntmps62
  go_wp2_with (go_at_call 137;refine HIN.out.mono ?_;intro e w2 hq;have HQ:=Hq hq;obtain⟨rfl,_⟩:=hq)
  go_ret
  exact fq6 G1.out HQ.out hB HH.out.low (by decide) (by simp) (by simp)
 have hn1:((n:Int)==1)=false:=by rw [beq_eq_false_iff_ne];omega
 have ee: ∀b:Bool,(b&&((n:Int)==1))=false:=fun b=>by rw [hn1,Bool.and_false]
 clear hK hM hw hz hcc hs0 ht htr hnl S1 hhd hnd hin hne hlim e0lim hla hl0 hlast h1
 go_enter Tryz.func62,Tryz.ntmps62
 go_wp2_with (go_at_call 137;refine HIN.out.mono ?_;intro e w2 hq;have HQ:=Hq hq;obtain⟨rfl,_⟩:=hq)
 all_goals
  go_ret
  exact fq6 G1.out HQ.out hB HH.out.low (by decide) (by simp) (by simp)
theorem kqe (ρ:Nat→Nat) (B kb:Nat) (σ:AsK) (V:RkV) (m:AsM) (U:RtV) (A:Option Addr) (n cap:Nat) (ws:List ByteArray) (w:World) (N:Nat) (hK:RkC w ρ B kb σ V (aq4 m U)) (hso:σ.m.isSome=true) (hM:RtC w ρ B m U) (hw:WdA w (Un ρ) A n cap ws) (hz:SmW ws) (hn:0<n) (hl:σ.c.pool.length≤900000) (hlc:m.mv.code.length≤900000) (hlj:m.jumps.length≤900000):
  Calls Tryz.prog 137 #[.pointer (some ⟨kb,0,none⟩), .slice A n cap] w (cqh [1,3,10,11] w ρ B kb (σ.instr m ws)):=by
 obtain⟨c,hc⟩: ∃c,aqP (ws.headD ⟨#[]⟩).data.toList=c:=⟨_,rfl⟩
 by_cases hc0:c<0
 ·exact lqQ ρ B kb σ V m U A n cap ws w N hK hso hM hw hz hn hl hlc hlj c hc hc0
 have hf:=eq0 c
 obtain⟨nm,hnm⟩: ∃nm,(aqc c).1=nm:=⟨_,rfl⟩
 have hc1:0≤c:=by omega
 have h18:(aqc c).2≠ [117]→(c==18)=false:=fun h=>beq_eq_false_iff_ne.2 (by rintro rfl;exact h (by decide))
 by_cases hlen:ws.length - 1=bqY (aqc c).2
 case neg=>exact kqb ρ B kb σ V m U A n cap ws w N hK hso hM hw hz hn hl hlc hlj c hc hc1 nm hnm _ rfl (fun h=>by subst h;decide) hlen
 simp only [fqc,List.mem_cons,List.not_mem_nil,or_false] at hf
 rcases hf with hf|hf|hf|hf|hf|hf|hf|hf|hf|hf
 ·exact nqG ρ B kb σ V m U A n cap ws w N hK hso hM hw hz hn hl hlc hlj c hc hc1 nm hnm hf (h18 (by rw [hf];decide)) (by rw [←hf];exact hlen)
 ·exact nqH ρ B kb σ V m U A n cap ws w N hK hso hM hw hz hn hl hlc hlj c hc hc1 nm hnm hf (h18 (by rw [hf];decide)) (by rw [←hf];exact hlen)
 ·cases he:c==18
  ·exact nqI ρ B kb σ V m U A n cap ws w N hK hso hM hw hz hn hl hlc hlj c hc hc1 nm hnm hf he (by rw [←hf];exact hlen)
  exact nqN ρ B kb σ V m U A n cap ws w N hK hso hM hw hz hn hl hlc hlj c hc hc1 nm hnm hf he (by rw [←hf];exact hlen)
 ·exact nqK ρ B kb σ V m U A n cap ws w N hK hso hM hw hz hn hl hlc hlj c hc hc1 nm hnm hf (h18 (by rw [hf];decide)) (by rw [←hf];exact hlen)
 ·exact nqO ρ B kb σ V m U A n cap ws w N hK hso hM hw hz hn hl hlc hlj c hc hc1 nm hnm hf (h18 (by rw [hf];decide)) (by rw [←hf];exact hlen)
 ·exact nqP ρ B kb σ V m U A n cap ws w N hK hso hM hw hz hn hl hlc hlj c hc hc1 nm hnm hf (h18 (by rw [hf];decide)) (by rw [←hf];exact hlen)
 ·exact nqM ρ B kb σ V m U A n cap ws w N hK hso hM hw hz hn hl hlc hlj c hc hc1 nm hnm hf (h18 (by rw [hf];decide)) (by rw [←hf];exact hlen)
 ·exact nqL ρ B kb σ V m U A n cap ws w N hK hso hM hw hz hn hl hlc hlj c hc hc1 nm hnm hf (h18 (by rw [hf];decide)) (by rw [←hf];exact hlen)
 ·exact nqQ ρ B kb σ V m U A n cap ws w N hK hso hM hw hz hn hl hlc hlj c hc hc1 nm hnm hf (h18 (by rw [hf];decide)) (by rw [←hf];exact hlen)
 exact nqJ ρ B kb σ V m U A n cap ws w N hK hso hM hw hz hn hl hlc hlj c hc hc1 nm hnm hf (h18 (by rw [hf];decide)) (by rw [←hf];exact hlen)
end Go.Proofs.YtlcidkiplidamaaGreatDoor
