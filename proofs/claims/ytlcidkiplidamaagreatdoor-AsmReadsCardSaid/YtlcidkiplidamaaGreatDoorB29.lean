/-
  What the laws rest on, part 29: walks of the program's functions and plain laws. Conditions: none but those that each theorem names.
-/
import Derived.Test.YtlcidkiplidamaaGreatDoorB00
import Derived.Test.YtlcidkiplidamaaGreatDoorB28
import Derived.Test.YtlcidkiplidamaaGreatDoorB23
import Derived.Lib.Hide
import Derived.Deep.QuietTactic
import Derived.BigQuiet
import Derived.Test.YtlcidkiplidamaaGreatDoorB03
import Derived.Defers
import Derived.Recover
import Derived.RegionTactic
import Derived.Deep.RegionHeld2
import Derived.Test.YtlcidkiplidamaaGreatDoorB16
set_option linter.unusedSimpArgs false
set_option linter.unusedVariables false
set_option maxRecDepth 100000
set_option maxHeartbeats 4000000
namespace Go.Proofs.YtlcidkiplidamaaGreatDoor
open Go Go.RowKit Lib Go.Maps
theorem nq6 {l:List Value} (h:l.length=13): ∃a0 a1 a2 a3 a4 a5 a6 a7 a8 a9 a10 a11 a12,l= [a0,a1,a2,a3,a4,a5,a6,a7,a8,a9,a10,a11,a12]:=by
 match l,h with
 | [a0,a1,a2,a3,a4,a5,a6,a7,a8,a9,a10,a11,a12],_=>exact⟨a0,a1,a2,a3,a4,a5,a6,a7,a8,a9,a10,a11,a12,rfl⟩
theorem Chg.kset {cs:List Nat} {w W:World} {ρ ρ':Nat→Nat} {kb:Nat} (h:Chg cs w ρ W ρ') (hk:ρ kb=1) (h1:1∈cs) (j:Nat) (u:Value):Chg cs w ρ (W.setCell ⟨kb,j,none⟩ u) ρ':=
 ⟨h.os,h.tape,h.output,by simpa using h.size,fun g hg hc=> ⟨(Below.heap_setCell _ _ _ _ (by rintro rfl;exact hc (by rw [hk];exact h1))).trans (h.blk g hg hc).1,(h.blk g hg hc).2⟩⟩
theorem Chg.cset {cs:List Nat} {w W:World} {ρ ρ':Nat→Nat} {g:Nat} (h:Chg cs w ρ W ρ') (hk:ρ g∈cs) (j:Nat) (u:Value):Chg cs w ρ (W.setCell ⟨g,j,none⟩ u) ρ':=
 ⟨h.os,h.tape,h.output,by simpa using h.size,fun q hq hc=> ⟨(Below.heap_setCell _ _ _ _ (by rintro rfl;exact hc hk)).trans (h.blk q hq hc).1,(h.blk q hq hc).2⟩⟩
theorem iqv (ρ:Nat→Nat) (B kb:Nat) (σ:AsK) (V:RkV) (t:List Value) (A:Option Addr) (n cap:Nat) (ws:List ByteArray) (w:World) (h:RkC w ρ B kb σ V t) (hm:σ.m=none) (hw:WdA w (Un ρ) A n cap ws) (hz:SmW ws) (hl:σ.c.pool.length≤999000) (hlm:σ.c.mths.length≤999000):
  Calls Tryz.prog 66 #[.pointer (some ⟨kb,0,none⟩), .slice A n cap, .int .i64 σ.line] w (cqh [1,3,6] w ρ B kb (if 2<n then σ.begin ws else none)):=by
 have H:=Hq h
 have hkl:=h.box.lt
 have hB:=h.hB
 have HM:=Hq hm
 by_cases h2:n<3
 ·have HN:=Hq (show(if 2<n then σ.begin ws else none)=none from if_neg (by omega))
  have h2':(n:Int) <3:=by omega
  rw [HN.out]
  clear h hm hw hz
  go_enter Tryz.func66,Tryz.ntmps66
  go_wp2_with fail
  go_ret
  exact aqh rfl ((Below.refl _ _))
 have h2': ¬(n:Int) <3:=by omega
 rw [if_pos (by omega)]
 have HW:=Hq hw
 have HZ:=Hq hz
 have HLN:=Hq hw.len
 have hle:=hw.le
 have hmx:=hw.max
 obtain⟨b,off,hA,hb,hub,hc⟩:=hw.hat (by omega)
 subst hA
 have HC:=Hq hc
 have HUB:=Hq hub
 obtain⟨s1,hs1⟩: ∃s,ws[1]?=some s:=⟨_,List.getElem?_eq_getElem (by rw [←hw.len];omega)⟩
 obtain⟨s2,hs2⟩: ∃s,ws[2]?=some s:=⟨_,List.getElem?_eq_getElem (by rw [←hw.len];omega)⟩
 have HS1:=Hq (aqE hs1)
 have HS2:=Hq (aqE hs2)
 have z1:=hz s1 (List.mem_of_getElem? hs1)
 have z2:=hz s2 (List.mem_of_getElem? hs2)
 have HW1:=Hq (hc 1 s1 hs1)
 have HW2:=Hq (hc 2 s2 hs2)
 have hl1:=bqn (k:=⟨1,s1,0,0,0⟩) hl
 have hl2:=bqn (k:=⟨1,s2,0,0,0⟩) hl1.1
 have hl1':(σ.text s1).2.c.pool.length≤999001:=hl1.1
 have hl2':((σ.text s1).2.text s2).2.c.pool.length≤999002:=hl2.1
 have htk:(ws.take n).drop 3=ws.drop 3:=by rw [List.take_of_length_le (by rw [←hw.len];exact Nat.le_refl _)]
 have HFD:=Hq (iq2 (σ:=σ) (ws:=ws))
 have hc3:(3:Int)≤(n:Int):=by omega
 clear hw hz h hm hc hs1 hs2 hub hl1 hl2
 by_cases hcap:3<cap
 ·have hcap':(3:Int) < (cap:Int):=by omega
  go_enter Tryz.func66,Tryz.ntmps66
  go_wp2_with (go_at_call 63;refine aqa ?_)
  refine aqb ?_
  refine(bq9 (Un ρ) _ _ _ _ _ (HW.out.part 3 n (by omega) (by omega) _ (fun _=>rfl))).mono ?_
  intro e w1 hq
  rcases bqy hq with⟨hp,v',rfl,hb1⟩ | ⟨vv,hp,rfl,hb1⟩
  ·have hpn:=cqM hp
   rw [htk] at hpn
   have HN:=Hq (show σ.begin ws=none from HFD.out.trans (by rw [hpn] <;>rfl))
   go_wp2_with fail
   go_ret
   exact aqh HN.out (hb1.mono hB)
  obtain⟨acc,hac,rfl⟩:=cqN hp
  rw [htk] at hac
  have hal:=dqZ _ _ _ (by omega) hac
  have HK:=Hq (H.out.below hb1)
  have GG:=Hq (Chg.of_below (cs:= [1,3,6]) (ρ:=ρ) hb1)
  clear hq hp hb1
  have hz1:=GG.out.size
  have FB:=Hq (show FrB (w1.alloc (.cells #[.int .i64 acc, .int .i64 0, .int .i64 0, .bool false, .int .i64 0, .int .i64 0, .slice none 0 0, .slice none 0 0] 37)) ρ w1.heap.size [.int .i64 acc, .int .i64 0, .int .i64 0, .bool false, .int .i64 0, .int .i64 0, .slice none 0 0, .slice none 0 0] 37 from⟨aqo w1 _ _,HK.out.low.fresh (Nat.le_refl _)⟩)
  have K1:=Hq (HK.out.below ((Below.refl _ _).alloc (Nat.le_refl _) (.cells #[.int .i64 acc, .int .i64 0, .int .i64 0, .bool false, .int .i64 0, .int .i64 0, .slice none 0 0, .slice none 0 0] 37)))
  have GG1:=Hq (GG.out.alloc (.cells #[.int .i64 acc, .int .i64 0, .int .i64 0, .bool false, .int .i64 0, .int .i64 0, .slice none 0 0, .slice none 0 0] 37))
  have hqa:bits .and .i64 (acc:Int) 1024=((acc&&&1024:Nat):Int):=cqk acc 1024 (by omega) (by omega)
  have e1:=GG1.out.cell0 (by decide) hb HUB.out (off+1)
  rw [HW1.out] at e1
  clear HK GG
  go_wp2_with (go_at_call 139;refine aqa ?_)
  refine aqb ?_
  refine(bqo ρ B kb σ V t s1 _ K1.out z1 (by omega)).mono ?_
  rintro e w2 ⟨rfl,ρ2,pv2,hm,hg⟩
  have F2:=Hq ((FB.out.chg hg (by decide)).set 1 (.int .i64 (σ.text s1).1))
  have f1:=(FB.out.chg hg (by decide)).bx.cell 1 rfl
  have y1:=(FB.out.chg hg (by decide)).bx.frozen 1
  have K2:=Hq (hm.free (p:=⟨w1.heap.size,1,none⟩) (FB.out.chg hg (by decide)).un (.int .i64 (σ.text s1).1))
  have GG2:=Hq (aqO (GG1.out.trans (hg.mono (by simp))) (p:=⟨w1.heap.size,1,none⟩) hz1 (.int .i64 (σ.text s1).1))
  have e2:=GG2.out.cell0 (by decide) hb HUB.out (off+2)
  rw [HW2.out] at e2
  simp only [List.set_cons_succ,List.set_cons_zero] at F2
  clear hm hg K1 FB e1
  go_wp2_with (go_at_call 139;refine aqa ?_)
  refine aqb ?_
  refine(bqo ρ2 B kb (σ.text s1).2 { V with pv:=pv2 } t s2 _ K2.out z2 (by omega)).mono ?_
  rintro e w3 ⟨rfl,ρ3,pv3,hm,hg⟩
  have F3:=Hq ((F2.out.chg hg (by decide)).set 2 (.int .i64 ((σ.text s1).2.text s2).1))
  have f2:=(F2.out.chg hg (by decide)).bx.cell 2 rfl
  have y2:=(F2.out.chg hg (by decide)).bx.frozen 2
  have K3:=Hq (hm.free (p:=⟨w1.heap.size,2,none⟩) (F2.out.chg hg (by decide)).un (.int .i64 ((σ.text s1).2.text s2).1))
  have GG3:=Hq (aqO (GG2.out.trans (hg.mono (by simp))) (p:=⟨w1.heap.size,2,none⟩) hz1 (.int .i64 ((σ.text s1).2.text s2).1))
  have e3:=GG3.out.cell0 (by decide) hb HUB.out (off+2)
  rw [HW2.out] at e3
  simp only [List.set_cons_succ,List.set_cons_zero] at F3
  clear hm hg K2 F2 f1 y1 e2
  obtain⟨w5,hw5⟩: ∃W,W=w3.setCell ⟨w1.heap.size,2,none⟩ (.int .i64 ((σ.text s1).2.text s2).1):=⟨_,rfl⟩
  by_cases ha:acc&&&1024=0
  ·have ha':(((acc&&&1024:Nat):Int) !=0)=false:=by rw [ha];rfl
   have HE:=Hq (show σ.begin ws=some (σ.bgO s1 s2 acc) from HFD.out.trans (by rw [hac,HS1.out,HS2.out];show some (if acc&&&1024≠0 then _ else _)=_;rw [if_neg (by simp [ha])]))
   clear ha hac HFD
   go_wp2_with (go_at_call 139;refine aqa ?_)
   refine aqb ?_
   rw [←hw5] at K3 F3 GG3 e3⊢
   clear hw5
   refine(bqo ρ3 B kb ((σ.text s1).2.text s2).2 { V with pv:=pv3 } t hqS _ K3.out (by decide) (by omega)).mono ?_
   rintro e w6 ⟨rfl,ρ6,pv6,hm,hg⟩
   have F6:=Hq (F3.out.chg hg (by decide))
   have K6:=Hq hm
   have GG6:=Hq (GG3.out.trans (hg.mono (by simp)))
   have e6:=GG6.out.cell0 (by decide) hb HUB.out (off+2)
   rw [HW2.out] at e6
   clear hm hg K3 F3 e3
   go_wp2_with (go_at_call 142;refine aqa ?_)
   refine aqb ?_
   refine(cqL s2 _ (by omega)).mono ?_
   rintro e w7 ⟨rfl,hb7⟩
   have F7:=Hq (F6.out.chg (Chg.of_below (cs:= []) hb7) (by simp))
   have K7:=Hq (K6.out.below hb7)
   have GG7:=Hq (GG6.out.trans (Chg.of_below (cs:= [1,3,6]) hb7))
   clear hb7 K6 F6 GG6 e6
   have hks:=cqT s2
   obtain⟨kn,hkn⟩: ∃k,(aqk s2).1.size=k:=⟨_,rfl⟩
   have HKN:=Hq hkn
   rw [hkn] at hks
   obtain⟨K,hKK⟩: ∃k,(aqk s2).1=k:=⟨_,rfl⟩
   rw [hKK] at hkn
   have hkw:IntKind.i64.wrap ((kn:Int)+4)=((kn+4:Nat):Int):=by rw [IntWalk.i64_in _ (by omega)];omega
   obtain⟨a0,a1,a2,a3,a4,a5,a6,a7,a8,a9,a10,a11,a12,rfl⟩:=nq6 K7.out.ht
   have f0:=F7.out.bx.cell 0 rfl
   have f1:=F7.out.bx.cell 1 rfl
   have f2:=F7.out.bx.cell 2 rfl
   have f3:=F7.out.bx.cell 3 rfl
   have f4:=F7.out.bx.cell 4 rfl
   have f5:=F7.out.bx.cell 5 rfl
   have f6:=F7.out.bx.cell 6 rfl
   have f7:=F7.out.bx.cell 7 rfl
   have y3:=F7.out.bx.frozen 3
   have y4:=F7.out.bx.frozen 4
   have y5:=F7.out.bx.frozen 5
   have k10:=K7.out.box.cell 10 rfl
   have z10:=K7.out.box.frozen 10
   have k11:=K7.out.box.cell 11 rfl
   have z11:=K7.out.box.frozen 11
   have k12:=K7.out.box.cell 12 rfl
   have z12:=K7.out.box.frozen 12
   have k13:=K7.out.box.cell 13 rfl
   have z13:=K7.out.box.frozen 13
   have k14:=K7.out.box.cell 14 rfl
   have z14:=K7.out.box.frozen 14
   have k15:=K7.out.box.cell 15 rfl
   have z15:=K7.out.box.frozen 15
   have k16:=K7.out.box.cell 16 rfl
   have z16:=K7.out.box.frozen 16
   have k17:=K7.out.box.cell 17 rfl
   have z17:=K7.out.box.frozen 17
   have k18:=K7.out.box.cell 18 rfl
   have z18:=K7.out.box.frozen 18
   have k19:=K7.out.box.cell 19 rfl
   have z19:=K7.out.box.frozen 19
   have k20:=K7.out.box.cell 20 rfl
   have z20:=K7.out.box.frozen 20
   have k21:=K7.out.box.cell 21 rfl
   have z21:=K7.out.box.frozen 21
   have k22:=K7.out.box.cell 22 rfl
   have z22:=K7.out.box.frozen 22
   have k23:=K7.out.box.cell 23 rfl
   have z23:=K7.out.box.frozen 23
   have hne:kb≠w1.heap.size:=fun e=>by
    have h1:=K7.out.kc
    rw [e,F7.out.un] at h1
    omega
   have hne2: ¬w1.heap.size=kb:=fun e=>hne e.symm
   go_wp2_with fail
   go_ret
   have hu0:ρ6 w1.heap.size∈ [0,1]:=by rw [F7.out.un];simp
   have hu1:ρ6 kb∈ [0,1]:=by rw [K7.out.kc];simp
   have hkn2:=HKN.out
   subst hkn2
   have CH:=((((((((((((((((((Chg.refl [0,1] w7 ρ6).cset hu0 3 (.bool true)).cset hu0 4 (.int .i64 8)).cset hu0 5 (.int .i64 ((aqk s2).1.size+4))).cset hu1 13 (.int .i64 acc)).cset hu1 14 (.int .i64 (σ.text s1).1)).cset hu1 15 (.int .i64 ((σ.text s1).2.text s2).1)).cset hu1 16 (.bool true)).cset hu1 17 (.int .i64 8)).cset hu1 18 (.int .i64 ((aqk s2).1.size+4))).cset hu1 19 (.slice none 0 0)).cset hu1 20 (.slice none 0 0)).cset hu1 10 (.bool true)).cset hu1 11 (.bool true)).cset hu1 12 (.int .i64 σ.line)).cset hu1 21 (.slice none 0 0)).cset hu1 22 (.slice none 0 0)).cset hu1 23 (.slice none 0 0))
   have BX:=(((((((((((((((((K7.out.box.set_other ⟨w1.heap.size,3,none⟩ (.bool true) hne2).set_other ⟨w1.heap.size,4,none⟩ (.int .i64 8) hne2).set_other ⟨w1.heap.size,5,none⟩ (.int .i64 ((aqk s2).1.size+4)) hne2).set 13 (.int .i64 acc)).set 14 (.int .i64 (σ.text s1).1)).set 15 (.int .i64 ((σ.text s1).2.text s2).1)).set 16 (.bool true)).set 17 (.int .i64 8)).set 18 (.int .i64 ((aqk s2).1.size+4))).set 19 (.slice none 0 0)).set 20 (.slice none 0 0)).set 10 (.bool true)).set 11 (.bool true)).set 12 (.int .i64 σ.line)).set 21 (.slice none 0 0)).set 22 (.slice none 0 0)).set 23 (.slice none 0 0))
   refine aqs (V':={ V with pv:=pv6 }) (t':=aq4 (σ.bgM s1 s2 acc) ⟨.slice none 0 0, .slice none 0 0, .slice none 0 0, .slice none 0 0⟩) HE.out (K7.out.turn CH (K7.out.low.mono CH.size) K7.out.kc (show Bx _ kb (aq3 (σ.bgO s1 s2 acc) { V with pv:=pv6 }++aq4 (σ.bgM s1 s2 acc) ⟨.slice none 0 0, .slice none 0 0, .slice none 0 0, .slice none 0 0⟩) _ from BX) rfl rfl rfl rfl rfl (by intro c h1 h2 hm;simp at hm;omega))
    ⟨_,rfl,aqN _ _ _ _ _ _,aqN _ _ _ _ _ _,aqN _ _ _ _ _ _,aqN _ _ _ _ _ _,rfl⟩ ?_
   exact(((((((((((((((aqO (aqO (aqO GG7.out (p:=⟨w1.heap.size,3,none⟩) hz1 (.bool true)) (p:=⟨w1.heap.size,4,none⟩) hz1 (.int .i64 8)) (p:=⟨w1.heap.size,5,none⟩) hz1 (.int .i64 ((aqk s2).1.size+4))).kset H.out.kc (by simp) 13 (.int .i64 acc)).kset H.out.kc (by simp) 14 (.int .i64 (σ.text s1).1)).kset H.out.kc (by simp) 15 (.int .i64 ((σ.text s1).2.text s2).1)).kset H.out.kc (by simp) 16 (.bool true)).kset H.out.kc (by simp) 17 (.int .i64 8)).kset H.out.kc (by simp) 18 (.int .i64 ((aqk s2).1.size+4))).kset H.out.kc (by simp) 19 (.slice none 0 0)).kset H.out.kc (by simp) 20 (.slice none 0 0)).kset H.out.kc (by simp) 10 (.bool true)).kset H.out.kc (by simp) 11 (.bool true)).kset H.out.kc (by simp) 12 (.int .i64 σ.line)).kset H.out.kc (by simp) 21 (.slice none 0 0)).kset H.out.kc (by simp) 22 (.slice none 0 0)).kset H.out.kc (by simp) 23 (.slice none 0 0))
  have ha':(((acc&&&1024:Nat):Int) !=0)=true:=by simp;omega
  have HE:=Hq (show σ.begin ws=some (σ.bgA s1 s2 acc) from HFD.out.trans (by rw [hac,HS1.out,HS2.out];show some (if acc&&&1024≠0 then _ else _)=_;rw [if_pos (by simpa using ha)]))
  clear ha hac HFD
  go_wp2_with fail
  rw [←hw5] at K3 F3 GG3 e3⊢
  clear hw5
  have HR:=K3
  have F5:=F3
  have GG5:=GG3
  clear K3 F3 GG3 f2 y2 e3
  obtain⟨σ5,hσ5⟩: ∃s,s=((σ.text s1).2.text s2).2:=⟨_,rfl⟩
  rw [←hσ5] at HR
  have hf5:σ5.c.mths=σ.c.mths:=by rw [hσ5];rfl
  have Hσ:=Hq hσ5
  clear hσ5
  obtain⟨ms,hm1,hm2,hm3⟩:=HR.out.mths
  have HM1:=Hq hm1
  have HM2:=Hq hm2
  have HM3:=Hq hm3
  have hml:ms.length≤999000:=by
   have h1:=congrArg List.length hm1
   rw [List.length_map,hf5] at h1
   omega
  have HO:=Hq hm2.1
  clear hm1 hm2 hm3 hf5
  obtain⟨AF,kF,hfv⟩:=aqf HO.out
  have c8:=HR.out.box.cell 8 rfl
  have z8:=HR.out.box.frozen 8
  simp only at hfv c8
  rw [hfv] at HO c8
  have hBw:=HR.out.hB
  have hkr:kb<w5.heap.size:=HR.out.box.lt
  have hnk:(Value.slice AF ms.length kF).ownBlock≠some kb:=fun e=>by
   have h1:=HM2.out.2 kb (by simp only;rw [hfv];exact e)
   rw [HR.out.kc] at h1
   omega
  have g0:=F5.out.bx.cell 0 rfl
  have g1:=F5.out.bx.cell 1 rfl
  have g2:=F5.out.bx.cell 2 rfl
  have g3:=F5.out.bx.cell 3 rfl
  have g4:=F5.out.bx.cell 4 rfl
  have g5:=F5.out.bx.cell 5 rfl
  have g6':=F5.out.bx.cell 6 rfl
  have g7:=F5.out.bx.cell 7 rfl
  go_region_law (first
   | (refine aqt rfl (.tmp 46) (.tmp 48) 26 rfl Tryz.underlying26 bq7 rfl (by omega) B rfl ((aqp HO.out (fun _ _=>rfl)).alloc _) rfl rfl (aqd _ _ _ _ (by first|rfl|omega| (simp<;>omega))) (by simp [Value.oneCell']) (by omega) (by simp only [maxLen];omega) (by omega) (by first|rfl|omega| (simp<;>omega)) ?_
      intro g6 cap6 W' ho hg hb hgg
      have HO6:=Hq ho
      have HG6:=Hq hg
      have X6:=Hq (show Bx W' kb (aq3 σ5 { V with pv:=pv3 }++t) 80 from(hg.block kb (by first|omega| (simp;omega)) (fun e=>hnk e.symm)).trans ((Below.heap_alloc _ _ _ (by first|omega| (simp;omega))).trans HR.out.box))
      have c6:=X6.out.cell 8 rfl
      have z6:=X6.out.frozen 8
      have HGG:=Hq hgg
      clear ho hg hb hgg))
  all_goals
   go_wp2_with fail
   go_ret
   have hz6:=HG6.out.size
   try simp only [World.size_alloc] at hz6
   have hzw:w5.heap.size+1≤W'.heap.size:=by first|exact hz6|exact Nat.le_trans (Nat.le_of_eq (World.size_alloc _ _).symm) hz6
   have hnb: ∀q:Nat,V.tv.ownBlock≠some q→some q≠(Value.slice AF ms.length kF).ownBlock:=fun q h e=>h (by rw [hfv];exact e.symm)
   have hgv:V.tv.ownBlock=some g6∨w5.heap.size≤g6:=by
    rcases HGG.out with e|e
    ·exact .inl (by rw [hfv];exact e)
    right
    first|omega| (simp at e;omega)
   have hgk:g6≠kb:=by
    rintro rfl
    rcases hgv with e|e
    ·exact absurd ((HM2.out.2 _ e).symm.trans HR.out.kc) (by decide)
    omega
   obtain⟨ρ',tv',hM,hC⟩:=HR.out.addM (x:=⟨acc,(σ.text s1).1,((σ.text s1).2.text s2).1,false,0,0, [], []⟩) (cv:= .slice none 0 0) (tv:= .slice none 0 0) (w':=W'.setCell ⟨kb,8,none⟩ (.slice (some ⟨g6,0,none⟩) (ms.length+1) cap6)) (g:=g6) (cap:=cap6) HG6.out.os HG6.out.tape HG6.out.output (by simp;omega) HM1.out HM2.out HM3.out
    (fun q hq h1 h2=> (Below.heap_setCell _ _ _ _ h1).trans ((HG6.out.block q (by first|omega| (simp;omega)) (hnb q h2)).trans (Below.heap_alloc _ _ _ hq))) (X6.out.set 8 _) (aqY HO6.out hgk _) ⟨eq9 _ _ _,eq9 _ _ _, .inl rfl⟩ hgv
   refine aqs (V':={ V with pv:=pv3,tv:=tv' }) (t':=t) HE.out (show RkC _ ρ' B kb (σ.bgA s1 s2 acc) _ t from ?_) ?_ (GG5.out.trans (hC.mono (by simp)))
   ·have hs:=Hσ.out
    subst hs
    exact hM
   show eqO _ _ _ _ σ.m
   rw [HM.out]
   trivial
 obtain rfl:cap=3:=by omega
 obtain rfl:n=3:=by omega
 go_enter Tryz.func66,Tryz.ntmps66
 go_wp2_with (go_at_call 63;refine aqa ?_)
 refine aqb ?_
 refine(bq9 (Un ρ) _ _ _ _ _ (HW.out.part 3 3 (by omega) (by omega) _ (fun h=>absurd h (by omega)))).mono ?_
 intro e w1 hq
 rcases bqy hq with⟨hp,v',rfl,hb1⟩ | ⟨vv,hp,rfl,hb1⟩
 ·have hpn:=cqM hp
  rw [htk] at hpn
  have HN:=Hq (show σ.begin ws=none from HFD.out.trans (by rw [hpn] <;>rfl))
  go_wp2_with fail
  go_ret
  exact aqh HN.out (hb1.mono hB)
 obtain⟨acc,hac,rfl⟩:=cqN hp
 rw [htk] at hac
 have hal:=dqZ _ _ _ (by omega) hac
 have HK:=Hq (H.out.below hb1)
 have GG:=Hq (Chg.of_below (cs:= [1,3,6]) (ρ:=ρ) hb1)
 clear hq hp hb1
 have hz1:=GG.out.size
 have FB:=Hq (show FrB (w1.alloc (.cells #[.int .i64 acc, .int .i64 0, .int .i64 0, .bool false, .int .i64 0, .int .i64 0, .slice none 0 0, .slice none 0 0] 37)) ρ w1.heap.size [.int .i64 acc, .int .i64 0, .int .i64 0, .bool false, .int .i64 0, .int .i64 0, .slice none 0 0, .slice none 0 0] 37 from⟨aqo w1 _ _,HK.out.low.fresh (Nat.le_refl _)⟩)
 have K1:=Hq (HK.out.below ((Below.refl _ _).alloc (Nat.le_refl _) (.cells #[.int .i64 acc, .int .i64 0, .int .i64 0, .bool false, .int .i64 0, .int .i64 0, .slice none 0 0, .slice none 0 0] 37)))
 have GG1:=Hq (GG.out.alloc (.cells #[.int .i64 acc, .int .i64 0, .int .i64 0, .bool false, .int .i64 0, .int .i64 0, .slice none 0 0, .slice none 0 0] 37))
 have hqa:bits .and .i64 (acc:Int) 1024=((acc&&&1024:Nat):Int):=cqk acc 1024 (by omega) (by omega)
 have e1:=GG1.out.cell0 (by decide) hb HUB.out (off+1)
 rw [HW1.out] at e1
 clear HK GG
 go_wp2_with (go_at_call 139;refine aqa ?_)
 refine aqb ?_
 refine(bqo ρ B kb σ V t s1 _ K1.out z1 (by omega)).mono ?_
 rintro e w2 ⟨rfl,ρ2,pv2,hm,hg⟩
 have F2:=Hq ((FB.out.chg hg (by decide)).set 1 (.int .i64 (σ.text s1).1))
 have f1:=(FB.out.chg hg (by decide)).bx.cell 1 rfl
 have y1:=(FB.out.chg hg (by decide)).bx.frozen 1
 have K2:=Hq (hm.free (p:=⟨w1.heap.size,1,none⟩) (FB.out.chg hg (by decide)).un (.int .i64 (σ.text s1).1))
 have GG2:=Hq (aqO (GG1.out.trans (hg.mono (by simp))) (p:=⟨w1.heap.size,1,none⟩) hz1 (.int .i64 (σ.text s1).1))
 have e2:=GG2.out.cell0 (by decide) hb HUB.out (off+2)
 rw [HW2.out] at e2
 simp only [List.set_cons_succ,List.set_cons_zero] at F2
 clear hm hg K1 FB e1
 go_wp2_with (go_at_call 139;refine aqa ?_)
 refine aqb ?_
 refine(bqo ρ2 B kb (σ.text s1).2 { V with pv:=pv2 } t s2 _ K2.out z2 (by omega)).mono ?_
 rintro e w3 ⟨rfl,ρ3,pv3,hm,hg⟩
 have F3:=Hq ((F2.out.chg hg (by decide)).set 2 (.int .i64 ((σ.text s1).2.text s2).1))
 have f2:=(F2.out.chg hg (by decide)).bx.cell 2 rfl
 have y2:=(F2.out.chg hg (by decide)).bx.frozen 2
 have K3:=Hq (hm.free (p:=⟨w1.heap.size,2,none⟩) (F2.out.chg hg (by decide)).un (.int .i64 ((σ.text s1).2.text s2).1))
 have GG3:=Hq (aqO (GG2.out.trans (hg.mono (by simp))) (p:=⟨w1.heap.size,2,none⟩) hz1 (.int .i64 ((σ.text s1).2.text s2).1))
 have e3:=GG3.out.cell0 (by decide) hb HUB.out (off+2)
 rw [HW2.out] at e3
 simp only [List.set_cons_succ,List.set_cons_zero] at F3
 clear hm hg K2 F2 f1 y1 e2
 obtain⟨w5,hw5⟩: ∃W,W=w3.setCell ⟨w1.heap.size,2,none⟩ (.int .i64 ((σ.text s1).2.text s2).1):=⟨_,rfl⟩
 by_cases ha:acc&&&1024=0
 ·have ha':(((acc&&&1024:Nat):Int) !=0)=false:=by rw [ha];rfl
  have HE:=Hq (show σ.begin ws=some (σ.bgO s1 s2 acc) from HFD.out.trans (by rw [hac,HS1.out,HS2.out];show some (if acc&&&1024≠0 then _ else _)=_;rw [if_neg (by simp [ha])]))
  clear ha hac HFD
  go_wp2_with (go_at_call 139;refine aqa ?_)
  refine aqb ?_
  rw [←hw5] at K3 F3 GG3 e3⊢
  clear hw5
  refine(bqo ρ3 B kb ((σ.text s1).2.text s2).2 { V with pv:=pv3 } t hqS _ K3.out (by decide) (by omega)).mono ?_
  rintro e w6 ⟨rfl,ρ6,pv6,hm,hg⟩
  have F6:=Hq (F3.out.chg hg (by decide))
  have K6:=Hq hm
  have GG6:=Hq (GG3.out.trans (hg.mono (by simp)))
  have e6:=GG6.out.cell0 (by decide) hb HUB.out (off+2)
  rw [HW2.out] at e6
  clear hm hg K3 F3 e3
  go_wp2_with (go_at_call 142;refine aqa ?_)
  refine aqb ?_
  refine(cqL s2 _ (by omega)).mono ?_
  rintro e w7 ⟨rfl,hb7⟩
  have F7:=Hq (F6.out.chg (Chg.of_below (cs:= []) hb7) (by simp))
  have K7:=Hq (K6.out.below hb7)
  have GG7:=Hq (GG6.out.trans (Chg.of_below (cs:= [1,3,6]) hb7))
  clear hb7 K6 F6 GG6 e6
  have hks:=cqT s2
  obtain⟨kn,hkn⟩: ∃k,(aqk s2).1.size=k:=⟨_,rfl⟩
  have HKN:=Hq hkn
  rw [hkn] at hks
  obtain⟨K,hKK⟩: ∃k,(aqk s2).1=k:=⟨_,rfl⟩
  rw [hKK] at hkn
  have hkw:IntKind.i64.wrap ((kn:Int)+4)=((kn+4:Nat):Int):=by rw [IntWalk.i64_in _ (by omega)];omega
  obtain⟨a0,a1,a2,a3,a4,a5,a6,a7,a8,a9,a10,a11,a12,rfl⟩:=nq6 K7.out.ht
  have f0:=F7.out.bx.cell 0 rfl
  have f1:=F7.out.bx.cell 1 rfl
  have f2:=F7.out.bx.cell 2 rfl
  have f3:=F7.out.bx.cell 3 rfl
  have f4:=F7.out.bx.cell 4 rfl
  have f5:=F7.out.bx.cell 5 rfl
  have f6:=F7.out.bx.cell 6 rfl
  have f7:=F7.out.bx.cell 7 rfl
  have y3:=F7.out.bx.frozen 3
  have y4:=F7.out.bx.frozen 4
  have y5:=F7.out.bx.frozen 5
  have k10:=K7.out.box.cell 10 rfl
  have z10:=K7.out.box.frozen 10
  have k11:=K7.out.box.cell 11 rfl
  have z11:=K7.out.box.frozen 11
  have k12:=K7.out.box.cell 12 rfl
  have z12:=K7.out.box.frozen 12
  have k13:=K7.out.box.cell 13 rfl
  have z13:=K7.out.box.frozen 13
  have k14:=K7.out.box.cell 14 rfl
  have z14:=K7.out.box.frozen 14
  have k15:=K7.out.box.cell 15 rfl
  have z15:=K7.out.box.frozen 15
  have k16:=K7.out.box.cell 16 rfl
  have z16:=K7.out.box.frozen 16
  have k17:=K7.out.box.cell 17 rfl
  have z17:=K7.out.box.frozen 17
  have k18:=K7.out.box.cell 18 rfl
  have z18:=K7.out.box.frozen 18
  have k19:=K7.out.box.cell 19 rfl
  have z19:=K7.out.box.frozen 19
  have k20:=K7.out.box.cell 20 rfl
  have z20:=K7.out.box.frozen 20
  have k21:=K7.out.box.cell 21 rfl
  have z21:=K7.out.box.frozen 21
  have k22:=K7.out.box.cell 22 rfl
  have z22:=K7.out.box.frozen 22
  have k23:=K7.out.box.cell 23 rfl
  have z23:=K7.out.box.frozen 23
  have hne:kb≠w1.heap.size:=fun e=>by
   have h1:=K7.out.kc
   rw [e,F7.out.un] at h1
   omega
  have hne2: ¬w1.heap.size=kb:=fun e=>hne e.symm
  go_wp2_with fail
  go_ret
  have hu0:ρ6 w1.heap.size∈ [0,1]:=by rw [F7.out.un];simp
  have hu1:ρ6 kb∈ [0,1]:=by rw [K7.out.kc];simp
  have hkn2:=HKN.out
  subst hkn2
  have CH:=((((((((((((((((((Chg.refl [0,1] w7 ρ6).cset hu0 3 (.bool true)).cset hu0 4 (.int .i64 8)).cset hu0 5 (.int .i64 ((aqk s2).1.size+4))).cset hu1 13 (.int .i64 acc)).cset hu1 14 (.int .i64 (σ.text s1).1)).cset hu1 15 (.int .i64 ((σ.text s1).2.text s2).1)).cset hu1 16 (.bool true)).cset hu1 17 (.int .i64 8)).cset hu1 18 (.int .i64 ((aqk s2).1.size+4))).cset hu1 19 (.slice none 0 0)).cset hu1 20 (.slice none 0 0)).cset hu1 10 (.bool true)).cset hu1 11 (.bool true)).cset hu1 12 (.int .i64 σ.line)).cset hu1 21 (.slice none 0 0)).cset hu1 22 (.slice none 0 0)).cset hu1 23 (.slice none 0 0))
  have BX:=(((((((((((((((((K7.out.box.set_other ⟨w1.heap.size,3,none⟩ (.bool true) hne2).set_other ⟨w1.heap.size,4,none⟩ (.int .i64 8) hne2).set_other ⟨w1.heap.size,5,none⟩ (.int .i64 ((aqk s2).1.size+4)) hne2).set 13 (.int .i64 acc)).set 14 (.int .i64 (σ.text s1).1)).set 15 (.int .i64 ((σ.text s1).2.text s2).1)).set 16 (.bool true)).set 17 (.int .i64 8)).set 18 (.int .i64 ((aqk s2).1.size+4))).set 19 (.slice none 0 0)).set 20 (.slice none 0 0)).set 10 (.bool true)).set 11 (.bool true)).set 12 (.int .i64 σ.line)).set 21 (.slice none 0 0)).set 22 (.slice none 0 0)).set 23 (.slice none 0 0))
  refine aqs (V':={ V with pv:=pv6 }) (t':=aq4 (σ.bgM s1 s2 acc) ⟨.slice none 0 0, .slice none 0 0, .slice none 0 0, .slice none 0 0⟩) HE.out (K7.out.turn CH (K7.out.low.mono CH.size) K7.out.kc (show Bx _ kb (aq3 (σ.bgO s1 s2 acc) { V with pv:=pv6 }++aq4 (σ.bgM s1 s2 acc) ⟨.slice none 0 0, .slice none 0 0, .slice none 0 0, .slice none 0 0⟩) _ from BX) rfl rfl rfl rfl rfl (by intro c h1 h2 hm;simp at hm;omega))
   ⟨_,rfl,aqN _ _ _ _ _ _,aqN _ _ _ _ _ _,aqN _ _ _ _ _ _,aqN _ _ _ _ _ _,rfl⟩ ?_
  exact(((((((((((((((aqO (aqO (aqO GG7.out (p:=⟨w1.heap.size,3,none⟩) hz1 (.bool true)) (p:=⟨w1.heap.size,4,none⟩) hz1 (.int .i64 8)) (p:=⟨w1.heap.size,5,none⟩) hz1 (.int .i64 ((aqk s2).1.size+4))).kset H.out.kc (by simp) 13 (.int .i64 acc)).kset H.out.kc (by simp) 14 (.int .i64 (σ.text s1).1)).kset H.out.kc (by simp) 15 (.int .i64 ((σ.text s1).2.text s2).1)).kset H.out.kc (by simp) 16 (.bool true)).kset H.out.kc (by simp) 17 (.int .i64 8)).kset H.out.kc (by simp) 18 (.int .i64 ((aqk s2).1.size+4))).kset H.out.kc (by simp) 19 (.slice none 0 0)).kset H.out.kc (by simp) 20 (.slice none 0 0)).kset H.out.kc (by simp) 10 (.bool true)).kset H.out.kc (by simp) 11 (.bool true)).kset H.out.kc (by simp) 12 (.int .i64 σ.line)).kset H.out.kc (by simp) 21 (.slice none 0 0)).kset H.out.kc (by simp) 22 (.slice none 0 0)).kset H.out.kc (by simp) 23 (.slice none 0 0))
 have ha':(((acc&&&1024:Nat):Int) !=0)=true:=by simp;omega
 have HE:=Hq (show σ.begin ws=some (σ.bgA s1 s2 acc) from HFD.out.trans (by rw [hac,HS1.out,HS2.out];show some (if acc&&&1024≠0 then _ else _)=_;rw [if_pos (by simpa using ha)]))
 clear ha hac HFD
 go_wp2_with fail
 rw [←hw5] at K3 F3 GG3 e3⊢
 clear hw5
 have HR:=K3
 have F5:=F3
 have GG5:=GG3
 clear K3 F3 GG3 f2 y2 e3
 obtain⟨σ5,hσ5⟩: ∃s,s=((σ.text s1).2.text s2).2:=⟨_,rfl⟩
 rw [←hσ5] at HR
 have hf5:σ5.c.mths=σ.c.mths:=by rw [hσ5];rfl
 have Hσ:=Hq hσ5
 clear hσ5
 obtain⟨ms,hm1,hm2,hm3⟩:=HR.out.mths
 have HM1:=Hq hm1
 have HM2:=Hq hm2
 have HM3:=Hq hm3
 have hml:ms.length≤999000:=by
  have h1:=congrArg List.length hm1
  rw [List.length_map,hf5] at h1
  omega
 have HO:=Hq hm2.1
 clear hm1 hm2 hm3 hf5
 obtain⟨AF,kF,hfv⟩:=aqf HO.out
 have c8:=HR.out.box.cell 8 rfl
 have z8:=HR.out.box.frozen 8
 simp only at hfv c8
 rw [hfv] at HO c8
 have hBw:=HR.out.hB
 have hkr:kb<w5.heap.size:=HR.out.box.lt
 have hnk:(Value.slice AF ms.length kF).ownBlock≠some kb:=fun e=>by
  have h1:=HM2.out.2 kb (by simp only;rw [hfv];exact e)
  rw [HR.out.kc] at h1
  omega
 have g0:=F5.out.bx.cell 0 rfl
 have g1:=F5.out.bx.cell 1 rfl
 have g2:=F5.out.bx.cell 2 rfl
 have g3:=F5.out.bx.cell 3 rfl
 have g4:=F5.out.bx.cell 4 rfl
 have g5:=F5.out.bx.cell 5 rfl
 have g6':=F5.out.bx.cell 6 rfl
 have g7:=F5.out.bx.cell 7 rfl
 go_region_law (first
  | (refine aqt rfl (.tmp 46) (.tmp 48) 26 rfl Tryz.underlying26 bq7 rfl (by omega) B rfl ((aqp HO.out (fun _ _=>rfl)).alloc _) rfl rfl (aqd _ _ _ _ (by first|rfl|omega| (simp<;>omega))) (by simp [Value.oneCell']) (by omega) (by simp only [maxLen];omega) (by omega) (by first|rfl|omega| (simp<;>omega)) ?_
     intro g6 cap6 W' ho hg hb hgg
     have HO6:=Hq ho
     have HG6:=Hq hg
     have X6:=Hq (show Bx W' kb (aq3 σ5 { V with pv:=pv3 }++t) 80 from(hg.block kb (by first|omega| (simp;omega)) (fun e=>hnk e.symm)).trans ((Below.heap_alloc _ _ _ (by first|omega| (simp;omega))).trans HR.out.box))
     have c6:=X6.out.cell 8 rfl
     have z6:=X6.out.frozen 8
     have HGG:=Hq hgg
     clear ho hg hb hgg))
 all_goals
  go_wp2_with fail
  go_ret
  have hz6:=HG6.out.size
  try simp only [World.size_alloc] at hz6
  have hzw:w5.heap.size+1≤W'.heap.size:=by first|exact hz6|exact Nat.le_trans (Nat.le_of_eq (World.size_alloc _ _).symm) hz6
  have hnb: ∀q:Nat,V.tv.ownBlock≠some q→some q≠(Value.slice AF ms.length kF).ownBlock:=fun q h e=>h (by rw [hfv];exact e.symm)
  have hgv:V.tv.ownBlock=some g6∨w5.heap.size≤g6:=by
   rcases HGG.out with e|e
   ·exact .inl (by rw [hfv];exact e)
   right
   first|omega| (simp at e;omega)
  have hgk:g6≠kb:=by
   rintro rfl
   rcases hgv with e|e
   ·exact absurd ((HM2.out.2 _ e).symm.trans HR.out.kc) (by decide)
   omega
  obtain⟨ρ',tv',hM,hC⟩:=HR.out.addM (x:=⟨acc,(σ.text s1).1,((σ.text s1).2.text s2).1,false,0,0, [], []⟩) (cv:= .slice none 0 0) (tv:= .slice none 0 0) (w':=W'.setCell ⟨kb,8,none⟩ (.slice (some ⟨g6,0,none⟩) (ms.length+1) cap6)) (g:=g6) (cap:=cap6) HG6.out.os HG6.out.tape HG6.out.output (by simp;omega) HM1.out HM2.out HM3.out
   (fun q hq h1 h2=> (Below.heap_setCell _ _ _ _ h1).trans ((HG6.out.block q (by first|omega| (simp;omega)) (hnb q h2)).trans (Below.heap_alloc _ _ _ hq))) (X6.out.set 8 _) (aqY HO6.out hgk _) ⟨eq9 _ _ _,eq9 _ _ _, .inl rfl⟩ hgv
  refine aqs (V':={ V with pv:=pv3,tv:=tv' }) (t':=t) HE.out (show RkC _ ρ' B kb (σ.bgA s1 s2 acc) _ t from ?_) ?_ (GG5.out.trans (hC.mono (by simp)))
  ·have hs:=Hσ.out
   subst hs
   exact hM
  show eqO _ _ _ _ σ.m
  rw [HM.out]
  trivial
end Go.Proofs.YtlcidkiplidamaaGreatDoor
namespace Go.Proofs.YtlcidkiplidamaaGreatDoor
open Go Go.RowKit Lib
def bqs (k:Nat):Int×List UInt8×List UInt8:=eqA.getD k (0, [], [])
theorem iqw {c:Int} (h: ∀r∈eqA,r.1≠c):aqc c=([], []):=by
 have:eqA.find? (fun r=>r.1==c)=none:=by
  rw [List.find?_eq_none]
  intro r hr
  simpa using h r hr
 unfold aqc
 rw [this]
theorem lqL {c:Int} {k:Nat} (hk:k<83) (h:(bqs k).1=c) (hn: ∀j,j<k→(bqs j).1≠c):aqc c=(bqs k).2:=by
 have hl:eqA.length=83:=rfl
 have e: ∀j (hj:j<83),bqs j=eqA[j]'(by omega):=fun j hj=>by
  unfold bqs
  rw [List.getD_eq_getElem?_getD,List.getElem?_eq_getElem (by omega)]
  rfl
 have:eqA.find? (fun r=>r.1==c)=some (bqs k):=by
  rw [List.find?_eq_some_iff_getElem]
  refine⟨by simp [h],k,by omega,(e k hk).symm,fun j hj=> ?_⟩
  rw [←e j (by omega)]
  simpa using hn j hj
 unfold aqc
 rw [this]
theorem jq4 {c:Int} (hn: ∀j,j<83→(bqs j).1≠c):aqc c=([], []):=by
 apply iqw
 intro r hr
 obtain⟨j,hj,rfl⟩:=List.mem_iff_getElem.1 hr
 have hl:eqA.length=83:=rfl
 have:=hn j (by omega)
 unfold bqs at this
 rw [List.getD_eq_getElem?_getD,List.getElem?_eq_getElem hj] at this
 exact this
theorem jq5 {s:List UInt8} {k:Nat} (hk:k<83) (h:(bqs k).2.1=s) (hn: ∀j,j<k→(bqs j).2.1≠s):aqP s=(bqs k).1:=by
 have hl:eqA.length=83:=rfl
 have e: ∀j (hj:j<83),bqs j=eqA[j]'(by omega):=fun j hj=>by
  unfold bqs
  rw [List.getD_eq_getElem?_getD,List.getElem?_eq_getElem (by omega)]
  rfl
 have:eqA.find? (fun r=>r.2.1==s)=some (bqs k):=by
  rw [List.find?_eq_some_iff_getElem]
  refine⟨by simp [h],k,by omega,(e k hk).symm,fun j hj=> ?_⟩
  rw [←e j (by omega)]
  simpa using hn j hj
 unfold aqP
 rw [this]
theorem iqx {s:List UInt8} (hn: ∀j,j<83→(bqs j).2.1≠s):aqP s= -1:=by
 have:eqA.find? (fun r=>r.2.1==s)=none:=by
  rw [List.find?_eq_none]
  intro r hr
  obtain⟨j,hj,rfl⟩:=List.mem_iff_getElem.1 hr
  have hl:eqA.length=83:=rfl
  have:=hn j (by omega)
  unfold bqs at this
  rw [List.getD_eq_getElem?_getD,List.getElem?_eq_getElem hj] at this
  simpa using this
 unfold aqP
 rw [this]
def fqp:Array Value:=(eqA.flatMap fun r=> [Value.int .i64 r.1,Value.string ⟨r.2.1.toArray⟩,Value.string ⟨r.2.2.toArray⟩]).toArray
theorem hqG (w:World):
  Calls Tryz.prog 181 #[] w fun e w'=>e= .returned (.slice (some ⟨w.heap.size,0,none⟩) 83 83)∧w'=w.alloc (.cells fqp 210):=by
 go_enter Tryz.func181,Tryz.ntmps181
 iterate 9 go_step
 apply wp_seq_k;intro K2 hK2
 apply wp_region_lit
 refine jqh 0 (.slice (some ⟨w.heap.size,0,none⟩) 83 83) (w.alloc (.cells fqp 210)) (by kernel_rfl) ?_
 intro a' h1 h2
 apply hK2
 apply wp_ret
 exact bodyPost_ret (results_tmp rfl _ _ _) h2 ⟨by rw [h1],rfl⟩
def TabAt (w:World) (b:Nat):Prop:= ∀k,k<83→w.cell? ⟨b,k*3,none⟩=some (.int .i64 (bqs k).1)∧w.cell? ⟨b,k*3+1,none⟩=some (.string ⟨(bqs k).2.1.toArray⟩)∧w.cell? ⟨b,k*3+2,none⟩=some (.string ⟨(bqs k).2.2.toArray⟩)
theorem nq7 {α:Type} (f g h:α→Value): ∀(l:List α) (k:Nat),(l.flatMap fun r=> [f r,g r,h r])[k*3]?=l[k]?.map f∧(l.flatMap fun r=> [f r,g r,h r])[k*3+1]?=l[k]?.map g∧(l.flatMap fun r=> [f r,g r,h r])[k*3+2]?=l[k]?.map h
 | [],k=>by simp
 |x::l,0=>by simp
 |x::l,k+1=>by
  have ih:=nq7 f g h l k
  rw [List.flatMap_cons]
  have e: ∀j,([f x,g x,h x]++l.flatMap fun r=> [f r,g r,h r])[(k+1)*3+j]?=(l.flatMap fun r=> [f r,g r,h r])[k*3+j]?:=fun j=>by
   rw [List.getElem?_append_right (by simp;omega)]
   congr 1
   simp
   omega
  have e0:=e 0
  simp only [Nat.add_zero] at e0
  rw [e0,e 1,e 2,List.getElem?_cons_succ]
  exact ih
theorem fqd (w:World):
  Calls Tryz.prog 181 #[] w fun e w'=>e= .returned (.slice (some ⟨w.heap.size,0,none⟩) 83 83)∧TabAt w' w.heap.size∧Below w.heap.size w w':=by
 refine(hqG w).mono ?_
 rintro e w' ⟨rfl,rfl⟩
 refine⟨rfl,fun k hk=> ?_,(Below.refl _ _).alloc (Nat.le_refl _) _⟩
 have hl:eqA.length=83:=rfl
 have hr:eqA[k]?=some (bqs k):=by
  unfold bqs
  rw [List.getD_eq_getElem?_getD,List.getElem?_eq_getElem (by omega)]
  rfl
 have h3:=nq7 (fun r:Int×List UInt8×List UInt8=>Value.int .i64 r.1) (fun r=>Value.string ⟨r.2.1.toArray⟩) (fun r=>Value.string ⟨r.2.2.toArray⟩) eqA k
 rw [hr] at h3
 have hcell: ∀o,(w.alloc (.cells fqp 210)).cell? ⟨w.heap.size,o,none⟩=(eqA.flatMap fun r=> [Value.int .i64 r.1,Value.string ⟨r.2.1.toArray⟩,Value.string ⟨r.2.2.toArray⟩])[o]?:=fun o=>by
  unfold World.cell?
  rw [heap_alloc_new]
  unfold fqp
  simp only [Option.isSome_none,Bool.false_eq_true,if_false,List.getElem?_toArray]
 rw [hcell,hcell,hcell]
 exact h3
theorem iqy (c:Int) (w:World):
  Calls Tryz.prog 169 #[.int .i64 c] w fun e w'=>e= .returned (.tuple #[.string ⟨(aqc c).1.toArray⟩, .string ⟨(aqc c).2.toArray⟩])∧Below w.heap.size w w':=by
 go_enter Tryz.func169,Tryz.ntmps169
 go_wp2_with (go_at_call 181;refine(fqd _).mono ?_;rintro e w1 ⟨rfl,ht,hb⟩;have HT:=Hq ht;clear ht;have HB:=Hq hb;clear hb)
 go_loop [5] (fun i=> ∃k:Nat,k≤83∧i= .int .i64 k∧Hid (∀j,j<k→(bqs j).1≠c)) (fun i=>83 - (RowKit.intOf i).toNat)
 case atStart=>exact⟨0,by omega,rfl,fun j hj=>absurd hj (by omega)⟩
 case round=>
  obtain⟨k,hk,rfl,HN⟩:=hrel
  by_cases hlt:k<83
  ·obtain⟨c0,c1,c2⟩:=HT.out k hlt
   by_cases he:(bqs k).1=c
   ·have hb0:((bqs k).1==c)=true:=by simp [he]
    have HR:=Hq (lqL hlt he HN.out)
    have HE:=Hq he
    clear he
    go_wp2_with fail
    go_quiet (fail)
    go_wp2
    go_ret2
    exact⟨by rw [HR.out];rfl,below_drewN HB.out _⟩
   have hb0:((bqs k).1==c)=false:=by simp [he]
   have HE:=Hq he
   clear he
   go_wp2
   go_round
   case rel=>exact⟨k+1,by omega,by go_num,fun j hj=>by
    rcases Nat.lt_or_ge j k with h|h
    ·exact HN.out j h
    obtain rfl:j=k:=by omega
    exact HE.out⟩
   case measure=>simp [RowKit.intOf];omega
  obtain rfl:k=83:=by omega
  go_wp2
  go_ret2
  exact⟨by rw [jq4 HN.out];rfl,HB.out⟩
theorem iqz (s:ByteArray) (w:World):
  Calls Tryz.prog 168 #[.string s] w fun e w'=>e= .returned (.int .i64 (aqP s.toList))∧Below w.heap.size w w':=by
 go_enter Tryz.func168,Tryz.ntmps168
 go_wp2_with (go_at_call 181;refine(fqd _).mono ?_;rintro e w1 ⟨rfl,ht,hb⟩;have HT:=Hq ht;clear ht;have HB:=Hq hb;clear hb)
 go_loop [4] (fun i=> ∃k:Nat,k≤83∧i= .int .i64 k∧Hid (∀j,j<k→(bqs j).2.1≠s.toList)) (fun i=>83 - (RowKit.intOf i).toNat)
 case atStart=>exact⟨0,by omega,rfl,fun j hj=>absurd hj (by omega)⟩
 case round=>
  obtain⟨k,hk,rfl,HN⟩:=hrel
  by_cases hlt:k<83
  ·obtain⟨c0,c1,c2⟩:=HT.out k hlt
   by_cases he:(bqs k).2.1=s.toList
   ·have HR:=Hq (jq5 hlt he HN.out)
    have hb0:((bqs k).2.1==s.toList)=true:=by simp [he]
    have HE:=Hq he
    clear he
    go_wp2
    go_ret
    exact⟨by rw [HR.out];rfl,HB.out⟩
   have hb0:((bqs k).2.1==s.toList)=false:=by simp [he]
   have HE:=Hq he
   clear he
   go_wp2
   go_round
   case rel=>exact⟨k+1,by omega,by go_num,fun j hj=>by
    rcases Nat.lt_or_ge j k with h|h
    ·exact HN.out j h
    obtain rfl:j=k:=by omega
    exact HE.out⟩
   case measure=>simp [RowKit.intOf];omega
  obtain rfl:k=83:=by omega
  go_wp2
  go_ret
  exact⟨by rw [iqx HN.out];rfl,HB.out⟩
set_option maxHeartbeats 2000000
theorem Bx.row_other {w:World} {g:Nat} {vs:List Value} {t:TypeId} (h:Bx w g vs t) (k:Nat) (cs:List Value) (hk:k≠g):Bx (w.setRow k cs.toArray) g vs t:=(setRow_other w k g _ (by omega)).trans h
def Sh (w:World) (g n:Nat) (t:TypeId):Prop:= ∃arr:Array Value,w.heap[g]?=some (.cells arr t (0,0))∧arr.size=n
theorem gqY {w:World} {g n:Nat} {vs:List Value} {t:TypeId} (h:Bx w g vs t) (hn:vs.length=n):Sh w g n t:=⟨_,h,by simpa using hn⟩
theorem Sh.set {w:World} {g n:Nat} {t:TypeId} (h:Sh w g n t) (p:Addr) (u:Value):Sh (w.setCell p u) g n t:=by
 obtain⟨arr,h1,h2⟩:=h
 by_cases hp:p.block=g
 ·subst hp
  refine⟨if p.spot.isSome=true then arr else arr.setIfInBounds p.off u, ?_, ?_⟩
  ·simp [World.setCell,Array.getElem?_modify,h1]
  split<;>simp [h2]
 exact⟨arr,(Below.heap_setCell w p u g (fun e=>hp e.symm)).trans h1,h2⟩
theorem gqZ {w:World} {g n:Nat} {vs:List Value} {t:TypeId} (h:Sh w g n t) (hn:vs.length=n) (hc: ∀j,j<n→w.cell? ⟨g,j,none⟩=vs[j]?):Bx w g vs t:=by
 obtain⟨arr,h1,h2⟩:=h
 have e:arr=vs.toArray:=by
  apply Array.ext (by simp [h2,hn])
  intro i hi hi'
  have:=hc i (by omega)
  unfold World.cell? at this
  rw [h1] at this
  simp at this
  have h3:arr[i]?=vs[i]?:=this
  rw [Array.getElem?_eq_getElem hi,List.getElem?_eq_getElem (by omega)] at h3
  injection h3
 unfold Bx
 rw [h1,e]
theorem iqA {w:World} {g n:Nat} {t:TypeId} (h:Sh w g n t):Sh w.drew g n t:=h
theorem nine {vs:List Value} (h:vs.length=9): ∃a b c d e f g i j,vs= [a,b,c,d,e,f,g,i,j]:=by
 match vs,h with
 | [a,b,c,d,e,f,g,i,j],_=>exact⟨_,_,_,_,_,_,_,_,_,rfl⟩
theorem nqE {P:Program} {c:Code} {Q:Exit→Act→World→Prop} {a':Act} {w:World} (a:Act) (h:a'=a) (k:c.wp P Q a w):c.wp P Q a' w:=by rw [h];exact k
theorem iqB (p q s:Addr) (w:World):
  CallsD Tryz.prog 21 #[.pointer (some p), .pointer (some q), .pointer (some s)] .returning w fun e u' w'=>e= .returned (.tuple #[])∧u'= .returning∧w'=w:=by
 refine callsD_of_wpS Tryz.func21 rfl fun c₀ cs hu=> ?_
 apply wpS_seq
 apply wpS_region
 simp [wpOpsS,go_sem,recoverD,hu,Tryz.ntmps21,Exit.thenS]
 apply wpS_seq
 apply wpS_seq
 apply wpS_region
 simp [wpOpsS,go_sem,Exit.thenS]
 refine wpS_cond (t:=true) (by simp [Act.eval,Array.replicate]) ?_
 simp only [if_true]
 refine wpS_of_wp (wp_ret ?_)
 cases c₀
 simp_all [bodyPostS,results,Tryz.results21,Exit.thenS]
theorem bqC (C P E:Nat) (a er:Int) (vs:List Value) (v1 v2:Value) (w:World) (hC:Bx w C vs 28) (hv:vs.length=9) (hP:Bx w P [v1] 3) (hE:Bx w E [v2] 29) (h1:C≠P) (h2:C≠E) (h3:P≠E) (older:List PanicEntry):
  CallsD Tryz.prog 21 #[.pointer (some ⟨C,0,none⟩), .pointer (some ⟨P,0,none⟩), .pointer (some ⟨E,0,none⟩)] (.panicking ({ v:=cqg a er,recovered:=false }::older)) w fun e u' w'=>
   e= .returned (.tuple #[])∧u'= .panicking ({ v:=cqg a er,recovered:=true }::older)∧Bx w' C [.int .i64 0, .int .i64 0, .slice none 0 0, .int .i64 0, .int .i64 0, .int .i64 0, .slice none 0 0, .slice none 0 0, .slice none 0 0] 28∧Bx w' P [.int .i64 a] 3∧Bx w' E [.int .i64 er] 29∧But w.heap.size [C,P,E] w w':=by
 refine callsD_of_wpS Tryz.func21 rfl fun c₀ cs hu=> ?_
 apply wpS_seq
 apply wpS_region
 simp [wpOpsS,go_sem,recoverD,hu,Tryz.ntmps21,Exit.thenS,cqg]
 apply wpS_seq
 apply wpS_seq
 apply wpS_region
 simp [wpOpsS,go_sem,Exit.thenS]
 refine wpS_cond (t:=false) (by simp [Act.eval,Array.replicate]) ?_
 simp only [Bool.false_eq_true,if_false]
 refine wpS_of_wp (wp_skip ?_)
 simp only [Exit.thenS]
 refine wpS_of_wp ?_
 have x1:=hC.lt
 have x2:=hP.lt
 have x3:=hE.lt
 have hta: ∀W:World,(Instr.typeAssert (cqg a er) 20 60 true).run Tryz.prog W= .ok (.tuple #[.agg #[.int .i64 a, .int .i64 er], .bool true]) W:=fun W=>by kernel_rfl
 refine nqE { tmps:= #[.pointer (some ⟨C,0,none⟩), .pointer (some ⟨P,0,none⟩), .pointer (some ⟨E,0,none⟩),cqg a er,undef,undef,cqg a er,cqg a er, .bool false,undef,undef,undef,undef,undef,undef,undef,undef,undef,undef,undef,undef,undef],defers:= [] } (by kernel_rfl) ?_
 obtain⟨y1,y2,y3,y4,y5,y6,y7,y8,y9,y10,y11,y12⟩:=far C w.heap.size x1
 obtain⟨p1,p2,p3,p4,p5,p6,p7,p8,p9,p10,p11,p12⟩:=far P w.heap.size x2
 obtain⟨q1,q2,q3,q4,q5,q6,q7,q8,q9,q10,q11,q12⟩:=far E w.heap.size x3
 go_wp2_with fail
 have XC:=(hC.below ((Below.refl _ _).alloc (Nat.le_refl _) (.cells #[.int .i64 a, .int .i64 er] 60)) x1)
 have XP:=(hP.below ((Below.refl _ _).alloc (Nat.le_refl _) (.cells #[.int .i64 a, .int .i64 er] 60)) x2)
 have XE:=(hE.below ((Below.refl _ _).alloc (Nat.le_refl _) (.cells #[.int .i64 a, .int .i64 er] 60)) x3)
 have SC:=Hq (gqY XC hv)
 have SP:=Hq (gqY XP (n:=1) rfl)
 have SE:=Hq (gqY XE (n:=1) rfl)
 obtain⟨u0,u1,u2,u3,u4,u5,u6,u7,u8,rfl⟩:=nine hv
 have cC0:=XC.cell 0 rfl
 have zC0:=XC.frozen 0
 have cC1:=XC.cell 1 rfl
 have zC1:=XC.frozen 1
 have cC2:=XC.cell 2 rfl
 have zC2:=XC.frozen 2
 have cC3:=XC.cell 3 rfl
 have zC3:=XC.frozen 3
 have cC4:=XC.cell 4 rfl
 have zC4:=XC.frozen 4
 have cC5:=XC.cell 5 rfl
 have zC5:=XC.frozen 5
 have cC6:=XC.cell 6 rfl
 have zC6:=XC.frozen 6
 have cC7:=XC.cell 7 rfl
 have zC7:=XC.frozen 7
 have cC8:=XC.cell 8 rfl
 have zC8:=XC.frozen 8
 have cP:=XP.cell 0 rfl
 have zP:=XP.frozen 0
 have cE:=XE.cell 0 rfl
 have zE:=XE.frozen 0
 have n1: ¬C=P:=h1
 have n2: ¬C=E:=h2
 have n3: ¬P=E:=h3
 have n4: ¬P=C:=Ne.symm h1
 have n5: ¬E=C:=Ne.symm h2
 have n6: ¬E=P:=Ne.symm h3
 clear hC hP hE XC XP XE hv
 generalize hW:w.alloc (.cells #[.int .i64 a, .int .i64 er] 60)=W at*
 have s0:W.cell? ⟨w.heap.size,0,none⟩=some (.int .i64 a):=by rw [←hW];simp [go_sem]
 have s1:W.cell? ⟨w.heap.size,1,none⟩=some (.int .i64 er):=by rw [←hW];simp [go_sem]
 have HB:=Hq (show But w.heap.size [C,P,E] w W by rw [←hW];exact But.of_below ((Below.refl _ _).alloc (Nat.le_refl _) _))
 clear hW
 go_region_held2 (fun w'=>w'.cell? ⟨w.heap.size,0,none⟩=some (.int .i64 a)∧w'.cell? ⟨w.heap.size,1,none⟩=some (.int .i64 er)) (go_keep) (fail)
 refine(show _∧_ from⟨rfl, ?_⟩)
 refine⟨.panicking ({ v:=cqg a er,recovered:=true }::older),rfl, ?_⟩
 refine⟨.tuple #[],by simp [results,Tryz.results21],rfl,rfl, ?_, ?_, ?_, ?_⟩
 ·refine gqZ (n:=9) (iqA ?_) rfl fun j hj=> ?_
  ·repeat(first|with_reducible exact SC.out|with_reducible refine Sh.set ?_ _ _)
  obtain rfl|rfl|rfl|rfl|rfl|rfl|rfl|rfl|rfl:j=0∨j=1∨j=2∨j=3∨j=4∨j=5∨j=6∨j=7∨j=8:=by omega
  all_goals simp [go_sem,n1,n2,n3,n4,n5,n6,cC0,cC1,cC2,cC3,cC4,cC5,cC6,cC7,cC8,cP,cE]
 ·refine gqZ (n:=1) (iqA ?_) rfl fun j hj=> ?_
  ·repeat(first|with_reducible exact SP.out|with_reducible refine Sh.set ?_ _ _)
  obtain rfl:j=0:=by omega
  simp [go_sem,n1,n2,n3,n4,n5,n6,cP,cE]
 ·refine gqZ (n:=1) (iqA ?_) rfl fun j hj=> ?_
  ·repeat(first|with_reducible exact SE.out|with_reducible refine Sh.set ?_ _ _)
  obtain rfl:j=0:=by omega
  simp [go_sem,n1,n2,n3,n4,n5,n6,cP,cE]
 refine But.below_trans ?_ (Below.refl _ _).drew
 repeat(first|with_reducible exact HB.out|with_reducible refine But.set ?_ _ (.inl (by simp)) _)
end Go.Proofs.YtlcidkiplidamaaGreatDoor
