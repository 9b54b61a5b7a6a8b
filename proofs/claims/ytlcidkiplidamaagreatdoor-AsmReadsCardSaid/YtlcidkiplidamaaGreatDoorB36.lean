/-
  What the laws rest on, part 36: walks of the program's functions and plain laws. Conditions: none but those that each theorem names.
-/
import Derived.Test.YtlcidkiplidamaaGreatDoorB35
import Derived.BigQuiet
import Derived.Deep.RegionLaw
import Derived.Test.YtlcidkiplidamaaGreatDoorB31
import Derived.Test.YtlcidkiplidamaaGreatDoorB33
import Derived.Test.YtlcidkiplidamaaGreatDoorB25
import Derived.Test.YtlcidkiplidamaaGreatDoorB10
import Derived.Test.YtlcidkiplidamaaGreatDoorB00
import Derived.Laws.EntriesVeiled
import Derived.WalkMore
import Derived.Lib.SmallJoins
import Derived.BigRegion
import Derived.Deep.RegionHeld2
import Derived.RegionTactic
set_option linter.unusedSimpArgs false
set_option linter.unusedVariables false
set_option maxRecDepth 100000
set_option maxHeartbeats 4000000
namespace Go.Proofs.YtlcidkiplidamaaGreatDoor
open Go Go.RowKit Lib Go.Maps
theorem hqL (σ:AsK) (s:ByteArray) (a:Nat):(σ.clsLine s a).m=σ.m:=rfl
theorem lqS (σ:AsK) (s:ByteArray):(σ.supLine s).m=σ.m:=rfl
theorem gqI {cs cs':List Nat} {w w1 w':World} {ρ ρ1:Nat→Nat} {B kb:Nat} {p:Option AsK} {e:Ending} (G:Chg cs w ρ w1 ρ1) (hb:Below B w w1) (hs: ∀c∈cs',c∈cs) (h:cqh cs' w1 ρ1 B kb p e w'):cqh cs w ρ B kb p e w':=by
 obtain⟨h1,h2⟩:=h
 refine⟨h1, ?_⟩
 cases p with
 |none=>exact hb.trans h2
 |some σ'=>
  obtain⟨ρ',V',t',a,b,c⟩:=h2
  exact⟨ρ',V',t',a,b,G.trans (c.mono hs)⟩
theorem gqJ (kb:Nat) (vs:List Value) (A:Option Addr) (n cap:Nat) (l:Int) (w:World) (P:Ending→World→Prop) (hb:Bx w kb vs 80) (ho:vs[10]?=some (.bool true)) (hP: ∀e w',P e w'→ ∃b,e= .returned (.bool b)) (hin:Calls Tryz.prog 62 #[.pointer (some ⟨kb,0,none⟩), .slice A n cap] w P):
  Calls Tryz.prog 28 #[.pointer (some ⟨kb,0,none⟩), .slice A n cap, .int .i64 l] w P:=by
 have c10:=hb.cell 10 ho
 have HP:=Hq hP
 have HI:=Hq hin
 clear hb ho hin hP
 go_enter Tryz.func28,Tryz.ntmps28
 go_wp2_with (go_at_call 62;refine aqa ?_)
 refine aqb ?_
 refine HI.out.mono ?_
 intro e w2 hq
 have HQ:=Hq hq
 obtain⟨b,rfl⟩:=HP.out _ _ hq
 clear hq
 go_wp2_with fail
 exact HQ.out
theorem lqT (ρ:Nat→Nat) (B kb:Nat) (σ:AsK) (V:RkV) (t:List Value) (A:Option Addr) (n cap:Nat) (ws:List ByteArray) (w:World) (h:RkC w ρ B kb σ V t) (hm:σ.m=none) (h3:σ.part≤3↔σ.c.flds= []∧σ.c.mths= []) (h4:σ.part≤4↔σ.c.mths= []) (hw:WdA w (Un ρ) A n cap ws) (hz:SmW ws) (hn:0<n) (hl:σ.c.pool.length≤998000) (hlf:σ.c.flds.length≤999000) (hlm:σ.c.mths.length≤999000) (hli:σ.c.ifs.length≤999000):
  Calls Tryz.prog 28 #[.pointer (some ⟨kb,0,none⟩), .slice A n cap, .int .i64 σ.line] w (cqh [1,3,4,5,6] w ρ B kb (σ.outside ws)):=by
 have H:=Hq h
 have HW:=Hq hw
 have HZ:=Hq hz
 have HM:=Hq hm
 have hnl:=hw.len
 have hle:=hw.le
 have hmx:=hw.max
 obtain⟨b,off,hA,hb,hub,hcc⟩:=hw.hat hn
 subst hA
 have HUB:=Hq hub
 have HCC:=Hq hcc
 obtain⟨s0,hs0⟩: ∃s,ws[0]?=some s:=⟨_,List.getElem?_eq_getElem (by omega)⟩
 have HI:=Hq (iq3 hs0)
 have c0:=hcc 0 s0 hs0
 rw [Nat.add_zero] at c0
 have hB:=h.hB
 have c9:=h.box.cell 9 rfl
 have c10:=h.box.cell 10 (show _=some (.bool σ.m.isSome) from rfl)
 rw [hm] at c10
 have HOE:=Hq (eqX σ ws)
 have HH3:=Hq h3
 have HH4:=Hq h4
 have HLN:=Hq hnl
 have GR:=Hq (Chg.refl [1,3,4,5,6] w ρ)
 have BR:=Hq (Below.refl B w)
 have hbk: ¬b=kb:=fun e=>by
  have h1:=h.kc
  rw [←e,show ρ b=0 from hub] at h1
  omega
 clear h hw hz hm hub hcc hs0 hnl h3 h4
 by_cases hcl:(s0.toList== [99,108,97,115,115])=true
 ·by_cases hp:σ.part=0
  case neg=>
   have hpn: ¬bq8 σ.part=0:=by unfold bq8;split<;>omega
   have hp1:(bq8 σ.part !=0)=true:=by simpa using hpn
   have HN:=Hq (show σ.outside ws=none from HOE.out.trans (by
    rw [if_neg hp]
    simp only [HI.out]
    rw [eq_of_beq hcl]
    rfl))
   clear hp
   go_enter Tryz.func28,Tryz.ntmps28
   go_wp2_with fail
   go_ret
   exact aqh HN.out BR.out
  have HOE:=Hq (HOE.out.trans (if_pos hp))
  rw [hp] at c9
  by_cases h1:n<2
  case pos=>
   have h1':(n:Int) <2:=by omega
   have HN:=Hq (show σ.outside ws=none from HOE.out.trans (if_neg (fun h=>by rw [←HLN.out] at h;omega)))
   clear hp
   go_enter Tryz.func28,Tryz.ntmps28
   go_wp2_with fail
   go_ret
   exact aqh HN.out BR.out
  have h1': ¬(n:Int) <2:=by omega
  obtain⟨s1,hs1⟩: ∃s,ws[1]?=some s:=⟨_,List.getElem?_eq_getElem (by rw [←HLN.out];omega)⟩
  have HFD:=Hq (HOE.out.trans (if_pos ⟨by rw [HI.out];exact hcl,by rw [←HLN.out];omega⟩))
  rw [aqE hs1] at HFD
  obtain⟨fo,hfo⟩: ∃fo,aqS (ws.drop 2) 0=fo:=⟨_,rfl⟩
  rw [hfo] at HFD
  have z1:=HZ.out s1 (List.mem_of_getElem? hs1)
  have HW1:=Hq (HCC.out 1 s1 hs1)
  have HTK:=Hq (show ws.take n=ws from List.take_of_length_le (by rw [←HLN.out];exact Nat.le_refl _))
  clear hs1 HOE
  rcases Nat.lt_or_ge 2 cap with h3|h3
  ·go_enter Tryz.func28,Tryz.ntmps28
   go_wp2_with (go_at_call 63;refine aqa ?_)
   refine aqb ?_
   refine(bq9 (Un ρ) _ _ _ _ _ (HW.out.part 2 n (by omega) (by omega) _ (fun _=>rfl))).mono ?_
   intro e wq hq
   rw [HTK.out,hfo] at hq
   obtain⟨v',rfl,hv',hbq⟩:=hq
   have HV:=Hq hv'
   all_goals
    have M0:=Hq (H.out.below hbq)
    have G0:=Hq (GR.out.trans (Chg.of_below hbq))
    clear hv' hbq c10 c9 hfo
    have d3:=M0.out.box.cell 3 rfl
    have zd3:=M0.out.box.frozen 3
    have M1:=Hq (M0.out.setc 3 (.int .i64 v') (σ':={ σ with c:={ σ.c with acc:=v' } }) (V':=V) (t':=t) rfl rfl rfl rfl rfl rfl)
    have G1:=Hq (G0.out.trans (M1.out.2.mono (by simp)))
    have c1:=(G0.out.cell0 (by decide) hb HUB.out (off+1)).trans HW1.out
    have hbk2: ¬kb=b:=fun e=>hbk e.symm
    go_wp2_with (go_at_call 64;refine aqa ?_)
    refine aqb ?_
    refine(cq4 ρ B kb { σ with c:={ σ.c with acc:=v' } } V t s1 _ M1.out.1 z1 (show σ.c.pool.length≤999999 by omega)).mono ?_
    rintro e w2 ⟨rfl,ρ1,pv1,hm,hg⟩
    have M2:=Hq hm
    have G2:=Hq (G1.out.trans (hg.mono (by simp)))
    have d4:=hm.box.cell 4 rfl
    have zd4:=hm.box.frozen 4
    have d9:=hm.box.cell 9 rfl
    have zd9:=hm.box.frozen 9
    clear hm hg c1 d3 zd3
    go_wp2_with fail
    go_ret
    have M3:=Hq (M2.out.setc 4 (.int .i64 (σ.cls s1).1) (σ':={ (σ.cls s1).2 with c:={ (σ.cls s1).2.c with acc:=v',this:=(σ.cls s1).1 } }) (V':={ V with pv:=pv1 }) (t':=t) rfl rfl rfl rfl rfl rfl)
    have M4:=Hq (M3.out.1.setc 9 (.int .i64 1) (σ':={ (σ.cls s1).2 with c:={ (σ.cls s1).2.c with acc:=v',this:=(σ.cls s1).1 },part:=1 }) (V':={ V with pv:=pv1 }) (t':=t) rfl rfl rfl rfl rfl rfl)
    have G4:=Hq (G2.out.trans ((M3.out.2.trans M4.out.2).mono (by simp)))
   rcases fo with _|acc
   ·exact aqh HFD.out (G4.out.below H.out.low hB (by decide))
   obtain rfl:v'=acc:=HV.out acc rfl
   exact aqs (V':={ V with pv:=pv1 }) (HFD.out.trans (show _=some (σ.clsLine s1 acc) from rfl)) M4.out.1 (by
    show eqO _ _ _ _ (σ.clsLine s1 acc).m
    rw [hqL,HM.out]
    trivial) G4.out
  obtain rfl:cap=2:=by omega
  obtain rfl:n=2:=by omega
  go_enter Tryz.func28,Tryz.ntmps28
  go_wp2_with (go_at_call 63;refine aqa ?_)
  refine aqb ?_
  refine(bq9 (Un ρ) _ _ _ _ _ (HW.out.part 2 2 (by omega) (by omega) _ (fun h=>absurd h (by omega)))).mono ?_
  intro e wq hq
  rw [HTK.out,hfo] at hq
  obtain⟨v',rfl,hv',hbq⟩:=hq
  have HV:=Hq hv'
  all_goals
   have M0:=Hq (H.out.below hbq)
   have G0:=Hq (GR.out.trans (Chg.of_below hbq))
   clear hv' hbq c10 c9 hfo
   have d3:=M0.out.box.cell 3 rfl
   have zd3:=M0.out.box.frozen 3
   have M1:=Hq (M0.out.setc 3 (.int .i64 v') (σ':={ σ with c:={ σ.c with acc:=v' } }) (V':=V) (t':=t) rfl rfl rfl rfl rfl rfl)
   have G1:=Hq (G0.out.trans (M1.out.2.mono (by simp)))
   have c1:=(G0.out.cell0 (by decide) hb HUB.out (off+1)).trans HW1.out
   have hbk2: ¬kb=b:=fun e=>hbk e.symm
   go_wp2_with (go_at_call 64;refine aqa ?_)
   refine aqb ?_
   refine(cq4 ρ B kb { σ with c:={ σ.c with acc:=v' } } V t s1 _ M1.out.1 z1 (show σ.c.pool.length≤999999 by omega)).mono ?_
   rintro e w2 ⟨rfl,ρ1,pv1,hm,hg⟩
   have M2:=Hq hm
   have G2:=Hq (G1.out.trans (hg.mono (by simp)))
   have d4:=hm.box.cell 4 rfl
   have zd4:=hm.box.frozen 4
   have d9:=hm.box.cell 9 rfl
   have zd9:=hm.box.frozen 9
   clear hm hg c1 d3 zd3
   go_wp2_with fail
   go_ret
   have M3:=Hq (M2.out.setc 4 (.int .i64 (σ.cls s1).1) (σ':={ (σ.cls s1).2 with c:={ (σ.cls s1).2.c with acc:=v',this:=(σ.cls s1).1 } }) (V':={ V with pv:=pv1 }) (t':=t) rfl rfl rfl rfl rfl rfl)
   have M4:=Hq (M3.out.1.setc 9 (.int .i64 1) (σ':={ (σ.cls s1).2 with c:={ (σ.cls s1).2.c with acc:=v',this:=(σ.cls s1).1 },part:=1 }) (V':={ V with pv:=pv1 }) (t':=t) rfl rfl rfl rfl rfl rfl)
   have G4:=Hq (G2.out.trans ((M3.out.2.trans M4.out.2).mono (by simp)))
  rcases fo with _|acc
  ·exact aqh HFD.out (G4.out.below H.out.low hB (by decide))
  obtain rfl:v'=acc:=HV.out acc rfl
  exact aqs (V':={ V with pv:=pv1 }) (HFD.out.trans (show _=some (σ.clsLine s1 acc) from rfl)) M4.out.1 (by
   show eqO _ _ _ _ (σ.clsLine s1 acc).m
   rw [hqL,HM.out]
   trivial) G4.out
 have e0:(s0.toList== [99,108,97,115,115])=false:=by simpa using hcl
 by_cases hsu:(s0.toList== [115,117,112,101,114])=true
 ·have HOE:=Hq (show σ.outside ws=if σ.part=1∧ws.length=2 then some (σ.supLine (ws.getD 1 ⟨#[]⟩)) else none from HOE.out.trans (by
   simp only [HI.out]
   rw [e0]
   by_cases h0:σ.part=0
   ·rw [if_pos h0,if_neg (fun h=>by simp at h),if_neg (fun h=>by omega)]
   rw [if_neg h0,if_pos hsu]))
  clear hcl
  by_cases hp:σ.part=1
  case neg=>
   have hpn: ¬bq8 σ.part=1:=by unfold bq8;split<;>omega
   have hp1:(bq8 σ.part !=1)=true:=by simpa using hpn
   have HN:=Hq (show σ.outside ws=none from HOE.out.trans (if_neg (fun h=>hp h.1)))
   clear hp
   go_enter Tryz.func28,Tryz.ntmps28
   go_wp2_with fail
   go_ret
   exact aqh HN.out BR.out
  rw [hp] at c9
  by_cases h2:n=2
  case neg=>
   have h2':((n:Int) !=2)=true:=by simp;omega
   have HN:=Hq (show σ.outside ws=none from HOE.out.trans (if_neg (fun h=>h2 (by rw [HLN.out];exact h.2))))
   clear hp h2
   go_enter Tryz.func28,Tryz.ntmps28
   go_wp2_with fail
   go_ret
   exact aqh HN.out BR.out
  obtain⟨s1,hs1⟩: ∃s,ws[1]?=some s:=⟨_,List.getElem?_eq_getElem (by rw [←HLN.out];omega)⟩
  have HFE:=Hq (HOE.out.trans (if_pos ⟨hp,by rw [←HLN.out];exact h2⟩))
  rw [aqE hs1] at HFE
  have z1:=HZ.out s1 (List.mem_of_getElem? hs1)
  have c1:=HCC.out 1 s1 hs1
  subst h2
  clear hs1 hp HOE
  go_enter Tryz.func28,Tryz.ntmps28
  go_wp2_with (go_at_call 64;refine aqa ?_)
  refine aqb ?_
  refine(cq4 ρ B kb σ V t s1 _ H.out z1 (by omega)).mono ?_
  rintro e w2 ⟨rfl,ρ1,pv1,hm,hg⟩
  have M2:=Hq hm
  have G2:=Hq (GR.out.trans (hg.mono (by simp)))
  have d5:=hm.box.cell 5 rfl
  have zd5:=hm.box.frozen 5
  have d9:=hm.box.cell 9 rfl
  have zd9:=hm.box.frozen 9
  clear hm hg c1 c9
  go_wp2_with fail
  go_ret
  have M3:=Hq (M2.out.setc 5 (.int .i64 (σ.cls s1).1) (σ':={ (σ.cls s1).2 with c:={ (σ.cls s1).2.c with sup:=(σ.cls s1).1 } }) (V':={ V with pv:=pv1 }) (t':=t) rfl rfl rfl rfl rfl rfl)
  have M4:=Hq (M3.out.1.setc 9 (.int .i64 2) (σ':={ (σ.cls s1).2 with c:={ (σ.cls s1).2.c with sup:=(σ.cls s1).1 },part:=2 }) (V':={ V with pv:=pv1 }) (t':=t) rfl rfl rfl rfl rfl rfl)
  have G4:=Hq (G2.out.trans ((M3.out.2.trans M4.out.2).mono (by simp)))
  exact aqs (V':={ V with pv:=pv1 }) HFE.out M4.out.1 (by
   show eqO _ _ _ _ (σ.supLine s1).m
   rw [lqS,HM.out]
   trivial) G4.out
 have e1:(s0.toList== [115,117,112,101,114])=false:=by simpa using hsu
 clear hsu
 by_cases hp:σ.part=0
 ·have HN:=Hq (show σ.outside ws=none from HOE.out.trans (by rw [if_pos hp,if_neg (fun h=>by rw [HI.out,e0] at h;exact absurd h.1 (by simp))]))
  rw [hp] at c9
  clear hp hcl
  go_enter Tryz.func28,Tryz.ntmps28
  go_wp2_with fail
  go_ret
  exact aqh HN.out BR.out
 have hpn: ¬bq8 σ.part=0:=by unfold bq8;split<;>omega
 have hp0:(bq8 σ.part==0)=false:=by simpa using hpn
 have HOE:=Hq (HOE.out.trans (by rw [if_neg hp,if_neg (by rw [HI.out,e1];simp)]))
 obtain⟨τ,hτ⟩: ∃τ,σ.object=τ:=⟨_,rfl⟩
 have HTM:=Hq (show τ.m=none by rw [←hτ,eqM];exact HM.out)
 have HTL:=Hq (show τ.line=σ.line by rw [←hτ,fqT])
 have HTF:=Hq (show τ.c.flds=σ.c.flds by rw [←hτ,eqq])
 have HTS:=Hq (show τ.c.mths=σ.c.mths by rw [←hτ,cqV])
 have HTI:=Hq (show τ.c.ifs=σ.c.ifs by rw [←hτ,gqD])
 have htp:τ.c.pool.length≤998002:=by rw [←hτ];exact fqU hl
 have HT3:=Hq (show τ.part≤3↔τ.c.flds= []∧τ.c.mths= [] by
  rw [HTF.out,HTS.out, ←HH3.out, ←hτ]
  unfold AsK.object
  split
  ·show 2≤3↔_
   omega
  rfl)
 have HT4:=Hq (show τ.part≤4↔τ.c.mths= [] by
  rw [HTS.out, ←HH4.out, ←hτ]
  unfold AsK.object
  split
  ·show 2≤4↔_
   omega
  rfl)
 rw [hτ] at HOE
 have HBY:=Hq (fun q hq=>fq3 ρ B kb σ V t q hq w H.out (by omega))
 simp only [hτ] at HBY
 clear hτ hcl hp hpn
 by_cases him:(s0.toList== [105,109,112,108,101,109,101,110,116,115])=true
 ·have HOI:=Hq (show σ.outside ws=if(τ.c.flds= []∧τ.c.mths= [])∧ws.length=2 then some (τ.impLine (ws.getD 1 ⟨#[]⟩)) else none from HOE.out.trans ((if_pos (by rw [HI.out];exact him)).trans (ite_congr (propext (by rw [HT3.out])) (fun _=>rfl) (fun _=>rfl))))
  by_cases h2:n=2
  case neg=>
   have h2':((n:Int) !=2)=true:=by simp;omega
   have HN:=Hq (show σ.outside ws=none from HOI.out.trans (if_neg (fun h=>h2 (by rw [HLN.out];exact h.2))))
   clear h2
   go_enter Tryz.func28,Tryz.ntmps28
   go_wp2_with (go_at_call 30;refine aqa ?_)
   refine aqb ?_
   refine(HBY.out 3 (by omega)).mono ?_
   rintro e w1 ⟨rfl,ρ1,pv1,hm,hg⟩
   have M1:=Hq hm
   have G1:=Hq (GR.out.trans (hg.mono (by simp)))
   have B1:=Hq (hg.below H.out.low hB (by decide))
   have W1:=Hq (HW.out.chg hg (by decide))
   have y0:=(hg.cell0 (by decide) hb HUB.out off).trans c0
   have hb1:b<w1.heap.size:=Nat.lt_of_lt_of_le hb hg.size
   clear hm hg c0 c9 c10
   go_wp2_with fail
   go_quiet (fail)
   go_wp2_with fail
   go_ret
   exact aqh HN.out (below_drewN B1.out _)
  obtain⟨s1,hs1⟩: ∃s,ws[1]?=some s:=⟨_,List.getElem?_eq_getElem (by rw [←HLN.out];omega)⟩
  rw [aqE hs1] at HOI
  have z1:=HZ.out s1 (List.mem_of_getElem? hs1)
  have HW1:=Hq (HCC.out 1 s1 hs1)
  have HL2:=Hq (show ws.length=2 by rw [←HLN.out];exact h2)
  subst h2
  clear hs1
  go_enter Tryz.func28,Tryz.ntmps28
  go_wp2_with (go_at_call 30;refine aqa ?_)
  refine aqb ?_
  refine(HBY.out 3 (by omega)).mono ?_
  rintro e w1 ⟨rfl,ρ1,pv1,hm,hg⟩
  have M1:=Hq hm
  have G1:=Hq (GR.out.trans (hg.mono (by simp)))
  have B1:=Hq (hg.below H.out.low hB (by decide))
  have W1:=Hq (HW.out.chg hg (by decide))
  have y0:=(hg.cell0 (by decide) hb HUB.out off).trans c0
  have hb1:b<w1.heap.size:=Nat.lt_of_lt_of_le hb hg.size
  clear hm hg c0 c9 c10
  have c1:=(G1.out.cell0 (by decide) hb HUB.out (off+1)).trans HW1.out
  obtain⟨AF,kF,hfv⟩:=aqf M1.out.flds.1
  have hfv':V.fv= .slice AF τ.c.flds.length kF:=hfv
  obtain⟨ms,hms,hmo,hma⟩:=M1.out.mths
  obtain⟨AM,kM,htv⟩:=aqf hmo.1
  have hml:ms.length=τ.c.mths.length:=by have:=congrArg List.length hms;simpa using this
  have htv':V.tv= .slice AM τ.c.mths.length kM:=by rw [←hml];exact htv
  have d7:=M1.out.box.cell 7 (show _=some V.fv from rfl)
  rw [hfv'] at d7
  have d8:=M1.out.box.cell 8 (show _=some V.tv from rfl)
  rw [htv'] at d8
  clear hms hmo hma htv htv' hfv hfv' hml
  have hfl:τ.c.flds.length≤999000:=by rw [HTF.out];exact hlf
  have hml:τ.c.mths.length≤999000:=by rw [HTS.out];exact hlm
  have hww:IntKind.i64.wrap ((τ.c.flds.length:Int)+(τ.c.mths.length:Int))=(τ.c.flds.length:Int)+(τ.c.mths.length:Int):=IntWalk.i64_in _ (by omega)
  by_cases hfm:τ.c.flds= []∧τ.c.mths= []
  case neg=>
   have HN:=Hq (show σ.outside ws=none from HOI.out.trans (if_neg (fun h=>hfm (And.left h))))
   have hgt:(0:Int) < (τ.c.flds.length:Int)+(τ.c.mths.length:Int):=by
    have: ¬(τ.c.flds.length=0∧τ.c.mths.length=0):=fun h=>hfm ⟨List.eq_nil_of_length_eq_zero h.1,List.eq_nil_of_length_eq_zero h.2⟩
    omega
   clear hfm
   go_wp2_with fail
   go_quiet (fail)
   go_wp2_with fail
   go_ret
   exact aqh HN.out (below_drewN B1.out _)
  have HFE:=Hq (HOI.out.trans (if_pos ⟨hfm,HL2.out⟩))
  have hgt: ¬(0:Int) < (τ.c.flds.length:Int)+(τ.c.mths.length:Int):=by
   rw [hfm.1,hfm.2]
   simp
  clear hfm
  go_wp2_with fail
  go_quiet (fail)
  clear d7 d8 hww
  obtain⟨w2,hw2⟩: ∃W,W=w1.drewN nq:=⟨_,rfl⟩
  go_wp2_with fail
  rw [←hw2]
  have BQ:=Hq (show Below w1.heap.size w1 w2 by rw [hw2];exact below_drewN (Below.refl _ _) _)
  clear hw2
  have M2:=Hq (M1.out.below BQ.out)
  have G2:=Hq (G1.out.trans (Chg.of_below BQ.out))
  have e1:=(G2.out.cell0 (by decide) hb HUB.out (off+1)).trans HW1.out
  have e6:=M2.out.box.cell 6 (show _=some V.iv from rfl)
  have ze6:=M2.out.box.frozen 6
  have hb2:b<w2.heap.size:=Nat.lt_of_lt_of_le hb1 BQ.out.size
  have hl2:=fqQ (s:=s1) (σ:={ τ with part:=3 }) (N:=998002) (show τ.c.pool.length≤998002 by omega)
  clear y0 c1
  go_region_law (first
   | (refine aqt rfl (.tmp 115) (.tmp 121) 24 rfl Tryz.underlying24 hqz rfl (by omega) B rfl ((aqp M3.out.ifs.1 (fun _ _=>rfl)).alloc _) rfl rfl (aqd _ _ _ _ (by first|rfl|omega| (simp<;>omega))) (by simp [Value.oneCell']) (by omega) (by simp only [maxLen];omega) (by omega) (by first|omega| (simp<;>omega)) ?_
      intro g6 cap6 W' ho hg hb hgg
      have HO6:=Hq ho
      have HG6:=Hq hg
      have X6:=Hq (show Bx W' kb (aq3 (({ τ with part:=3 }:AsK).cls s1).2 { V with pv:=pv2 }++t) 80 from(hg.block kb (by first|omega| (simp;omega)) (fun e=>hnk e.symm)).trans ((Below.heap_alloc _ _ _ (by first|omega| (simp;omega))).trans M3.out.box))
      have c6:=X6.out.cell 6 rfl
      have z6:=X6.out.frozen 6
      have HGG:=Hq hgg
      clear ho hg hb hgg)
   | (go_simp;go_at_call 64;refine(cq4 ρ1 B kb { τ with part:=3 } { V with pv:=pv1 } t s1 _ (M2.out.below (by repeat' (first|with_reducible exact Below.refl _ _|with_reducible refine below_drewN ?_ _|with_reducible refine Below.drew ?_))) z1 (show τ.c.pool.length≤999999 by omega)).mono ?_
      rintro e w3 ⟨rfl,ρ2,pv2,hm,hg⟩
      have M3:=Hq hm
      have G3:=Hq ((G2.out.trans (Chg.of_below (by repeat' (first|with_reducible exact Below.refl _ _|with_reducible refine below_drewN ?_ _|with_reducible refine Below.drew ?_)))).trans (hg.mono (by simp)))
      have e6:=hm.box.cell 6 (show _=some V.iv from rfl)
      have ze6:=hm.box.frozen 6
      have hkw:=hm.box.lt
      have hBw:=hm.hB
      obtain⟨v1,v2,v3,v4,v5,v6,v7,v8,v9,v10,v11,v12⟩:=far kb w3.heap.size hkw
      have hnk:V.iv.ownBlock≠some kb:=fun e=>by have h1:=hm.ifs.2 _ e;rw [hm.kc] at h1;omega
      have hli3:(({ τ with part:=3 }:AsK).cls s1).2.c.ifs.length≤999000:=by show τ.c.ifs.length≤999000;rw [HTI.out];exact hli
      clear hm hg))
  all_goals
   go_wp2_with fail
   have hg6:V.iv.ownBlock=some g6∨w3.heap.size≤g6:=by
    rcases HGG.out with e|e
    ·exact .inl e
    right
    first|omega| (simp at e;omega)
   have hgk:g6≠kb:=by
    rintro rfl
    rcases hg6 with e|e
    ·exact hnk e
    omega
   have hz6':w3.heap.size+1≤W'.heap.size:=Nat.le_trans (Nat.le_of_eq (World.size_alloc w3 _).symm) HG6.out.size
   obtain⟨ρ',iv',hM,hC⟩:=M3.out.addI (x:=((({ τ with part:=3 }:AsK).cls s1).1:Int)) (w':=W'.setCell ⟨kb,6,none⟩ (.slice (some ⟨g6,0,none⟩) ((({ τ with part:=3 }:AsK).cls s1).2.c.ifs.length+1) cap6)) (g:=g6) (cap:=cap6) HG6.out.os HG6.out.tape HG6.out.output (by first|omega| (simp;omega))
    (fun q hq h1 h2=> (Below.heap_setCell _ _ _ _ h1).trans ((HG6.out.block q (by first|omega| (simp;omega)) (fun e=>h2 e.symm)).trans (Below.heap_alloc _ _ _ (by first|omega| (simp;omega)))))
    (X6.out.set 6 _) (aqY HO6.out hgk _) hg6
   go_ret
   exact aqs (V':={ V with pv:=pv2,iv:=iv' }) HFE.out (show RkC _ ρ' B kb (τ.impLine s1) _ t from hM) (by
    show eqO _ _ _ _ (({ τ with part:=3 }:AsK).cls s1).2.m
    rw [show(({ τ with part:=3 }:AsK).cls s1).2.m=none from HTM.out]
    trivial) (G3.out.trans (hC.mono (by simp)))
 have e2:(s0.toList== [105,109,112,108,101,109,101,110,116,115])=false:=by simpa using him
 clear him
 have HOE:=Hq (HOE.out.trans (if_neg (by rw [HI.out,e2];simp)))
 by_cases hfi:(s0.toList== [102,105,101,108,100])=true
 ·obtain⟨fo,hfo⟩: ∃fo,(if 2<n∧τ.c.mths= [] then({ τ with part:=4 }:AsK).field ws else none)=fo:=⟨_,rfl⟩
  have HOX:=Hq (show σ.outside ws=fo from HOE.out.trans ((if_pos (by rw [HI.out];exact hfi)).trans ((ite_congr (propext (by rw [HLN.out,HT4.out,and_comm])) (fun _=>rfl) (fun _=>rfl)).trans hfo)))
  have HFO:=Hq hfo
  clear hfo
  go_enter Tryz.func28,Tryz.ntmps28
  go_wp2_with (go_at_call 30;refine aqa ?_)
  refine aqb ?_
  refine(HBY.out 4 (by omega)).mono ?_
  rintro e w1 ⟨rfl,ρ1,pv1,hm,hg⟩
  have M1:=Hq hm
  have G1:=Hq (GR.out.trans (hg.mono (by simp)))
  have B1:=Hq (hg.below H.out.low hB (by decide))
  have W1:=Hq (HW.out.chg hg (by decide))
  have y0:=(hg.cell0 (by decide) hb HUB.out off).trans c0
  have hb1:b<w1.heap.size:=Nat.lt_of_lt_of_le hb hg.size
  clear hm hg c0 c9 c10
  go_wp2_with (go_at_call 65;refine aqa ?_)
  refine aqb ?_
  have hx:=jq3 ρ1 B kb { τ with part:=4 } { V with pv:=pv1 } t _ n cap ws _ M1.out HTM.out W1.out HZ.out (show τ.c.pool.length≤999000 by omega) (show τ.c.flds.length≤999000 by rw [HTF.out];exact hlf) (show τ.c.mths.length≤999000 by rw [HTS.out];exact hlm)
  refine hx.mono ?_
  intro e w2 hq
  have HQ:=Hq (show cqh [1,3,5] w1 ρ1 B kb fo e w2 by rw [←HFO.out];exact hq)
  clear hq hx
  obtain⟨rfl,_⟩:=HQ.out
  go_wp2_with fail
  go_ret
  rw [HOX.out]
  exact gqI (cs':= [1,3,5]) G1.out B1.out (by simp) HQ.out
 have e3:(s0.toList== [102,105,101,108,100])=false:=by simpa using hfi
 clear hfi
 have HOE:=Hq (HOE.out.trans (if_neg (by rw [HI.out,e3];simp)))
 by_cases hme:(s0.toList== [109,101,116,104,111,100])=true
 ·obtain⟨fo,hfo⟩: ∃fo,(if 2<n then({ τ with part:=5 }:AsK).begin ws else none)=fo:=⟨_,rfl⟩
  have HOX:=Hq (show σ.outside ws=fo from HOE.out.trans ((if_pos (by rw [HI.out];exact hme)).trans ((ite_congr (propext (by rw [HLN.out])) (fun _=>rfl) (fun _=>rfl)).trans hfo)))
  have HFO:=Hq hfo
  clear hfo
  rw [←HTL.out]
  go_enter Tryz.func28,Tryz.ntmps28
  go_wp2_with (go_at_call 30;refine aqa ?_)
  refine aqb ?_
  refine(HBY.out 5 (by omega)).mono ?_
  rintro e w1 ⟨rfl,ρ1,pv1,hm,hg⟩
  have M1:=Hq hm
  have G1:=Hq (GR.out.trans (hg.mono (by simp)))
  have B1:=Hq (hg.below H.out.low hB (by decide))
  have W1:=Hq (HW.out.chg hg (by decide))
  have y0:=(hg.cell0 (by decide) hb HUB.out off).trans c0
  have hb1:b<w1.heap.size:=Nat.lt_of_lt_of_le hb hg.size
  clear hm hg c0 c9 c10
  go_wp2_with (go_at_call 66;refine aqa ?_)
  refine aqb ?_
  have hx:=iqv ρ1 B kb { τ with part:=5 } { V with pv:=pv1 } t _ n cap ws _ M1.out HTM.out W1.out HZ.out (show τ.c.pool.length≤999000 by omega) (show τ.c.mths.length≤999000 by rw [HTS.out];exact hlm)
  refine hx.mono ?_
  intro e w2 hq
  have HQ:=Hq (show cqh [1,3,6] w1 ρ1 B kb fo e w2 by rw [←HFO.out];exact hq)
  clear hq hx
  obtain⟨rfl,_⟩:=HQ.out
  go_wp2_with fail
  go_ret
  rw [HOX.out]
  exact gqI (cs':= [1,3,6]) G1.out B1.out (by simp) HQ.out
 have e4:(s0.toList== [109,101,116,104,111,100])=false:=by simpa using hme
 clear hme
 have HN:=Hq (show σ.outside ws=none from HOE.out.trans (if_neg (by rw [HI.out,e4];simp)))
 go_enter Tryz.func28,Tryz.ntmps28
 go_wp2_with (go_at_call 30;refine aqa ?_)
 refine aqb ?_
 refine(HBY.out 3 (by omega)).mono ?_
 rintro e w1 ⟨rfl,ρ1,pv1,hm,hg⟩
 have M1:=Hq hm
 have G1:=Hq (GR.out.trans (hg.mono (by simp)))
 have B1:=Hq (hg.below H.out.low hB (by decide))
 have W1:=Hq (HW.out.chg hg (by decide))
 have y0:=(hg.cell0 (by decide) hb HUB.out off).trans c0
 have hb1:b<w1.heap.size:=Nat.lt_of_lt_of_le hb hg.size
 clear hm hg c0 c9 c10
 go_wp2_with fail
 go_ret
 exact aqh HN.out B1.out
set_option maxHeartbeats 2000000
theorem end_c:EndC:=fun ρ B kb xb σ V m U w N hK hV hM hS hMS hN=>oqM ρ B kb xb σ V m U w N hK hV hM hS hMS hN
theorem fq7 (text:ByteArray) (mx:Int) (w:World) (hmx:w.cell? ⟨Tryz.maxB,0,none⟩=some (.int .i64 mx)) (hts:text.size≤1000000) (hls: ∀s∈aqI text,oqV s∨s.size≤65536):
  Calls Tryz.prog 9 #[.string text] w (dq3 w (cq9 aq1 text)):=oqK lqG end_c text mx w hmx hts hls
set_option maxHeartbeats 4000000
theorem lqW (x:Int) (w:World):Calls Tryz.prog 11 #[.int .i64 x] w fun e w'=>e= .returned (.int .i64 x)∧w'=w:=by
 go_enter Tryz.func11,Tryz.ntmps11
 go_wp2_with fail
 go_ret
 exact⟨rfl,rfl⟩
theorem nqR: ∃(c:aqj) (m:aqA),cq9 aq1 iqO= .ok c∧c.pool.length=19∧c.mths= [m]∧m.code= [178,0,13,184,0,19,177]:=by
 have h:=iqb
 unfold kqZ at h
 cases hc:cq9 aq1 iqO with
 |error e=>rw [hc] at h;cases h
 |ok c=>
  rw [hc] at h
  simp only [Bool.and_eq_true,decide_eq_true_eq] at h
  obtain⟨h1,h2⟩:=h
  cases hm:c.mths with
  |nil=>rw [hm] at h2;cases h2
  |cons m l=>
   rw [hm] at h2
   cases l with
   |nil=>exact⟨c,m,rfl,h1,hm,by simpa using h2⟩
   |cons a b=>cases h2
theorem oqN {w:World} {ρ:Nat→Nat} {B kb:Nat} {σ:AsK} {V:MkV} {m:aqA} (h:MkC w ρ B kb σ V) (hm:σ.c.mths= [m]): ∃g k A cc,V.tv= .slice (some ⟨g,0,none⟩) 1 k∧w.cell? ⟨g,6,none⟩=some (.slice A m.code.length cc)∧RdB w A m.code.length cc m.code∧g<w.heap.size:=by
 obtain⟨ms,m1,m2,m3⟩:=h.mths
 rw [hm] at m1
 obtain⟨q,rfl,rfl⟩: ∃q,ms= [q]∧q.1=m:=by
  cases ms with
  |nil=>cases m1
  |cons q l=>
   cases l with
   |nil=>exact⟨q,rfl,by simpa using m1⟩
   |cons a b=>simp at m1
 obtain⟨g,k,e⟩: ∃g k,V.tv= .slice (some ⟨g,0,none⟩) 1 k:=by
  rcases Go.Joins.ownsRow_forms m2.1 with⟨_,h0⟩ | ⟨g,cap,e⟩
  ·exact absurd h0 (by simp)
  exact⟨g,cap,e⟩
 have hrow:=m2.1
 rw [e] at hrow
 have h6:=hrow.cellAt 6 (by simp)
 have hc:=(m3 q (by simp)).hcode
 obtain⟨A,cc,hv,hle,hmx,hl,hat⟩:=hc
 refine⟨g,k,A,cc,e, ?_, ?_,(hrow.lt g rfl).2⟩
 ·rw [h6]
  simp [aq8,aqA.cells,hv]
 exact⟨rfl,hle,by omega,fun h0=>by
  obtain⟨b,off,e1,hb,ho,hcc⟩:=hat h0
  exact⟨b,off,e1,hb,fun i hi=>by
   rw [hcc i _ (by rw [List.getElem?_map,List.getElem?_eq_getElem hi];rfl)]
   simp [bV,byt,List.getD,List.getElem?_eq_getElem hi]⟩⟩
theorem conv7 (b off cap:Nat) (W:World) (h0:W.cell? ⟨b,off,none⟩=some (.int .u8 178)) (h1:W.cell? ⟨b,off+1,none⟩=some (.int .u8 0)) (h2:W.cell? ⟨b,off+2,none⟩=some (.int .u8 13)) (h3:W.cell? ⟨b,off+3,none⟩=some (.int .u8 184)) (h4:W.cell? ⟨b,off+4,none⟩=some (.int .u8 0)) (h5:W.cell? ⟨b,off+5,none⟩=some (.int .u8 19)) (h6:W.cell? ⟨b,off+6,none⟩=some (.int .u8 177)):
  (convert 34 9 (.slice (some ⟨b,off,none⟩) 7 cap)).run Tryz.prog W= .ok (.string ⟨#[178,0,13,184,0,19,177]⟩) W:=by
 have:=run_convert_bytes_arg (P:=Tryz.prog) W 34 5 Tryz.underlying34 Tryz.underlying5 b off 7 cap [178,0,13,184,0,19,177] rfl (fun i hi=>by
  match i,hi with
  |0,_=>exact h0
  |1,_=>exact h1
  |2,_=>exact h2
  |3,_=>exact h3
  |4,_=>exact h4
  |5,_=>exact h5
  |6,_=>exact h6) 9 Tryz.underlying9
 rw [this]
 rfl
theorem oqO {w w':World} {p:Except (Nat×Int) aqj} {c:aqj} {e:Ending} (h:dq3 w p e w') (hp:p= .ok c):Below w.heap.size w w'∧ ∃ρ B kb σ V,w.heap.size≤B∧σ.c=c∧cqB σ 900000∧MkC w' ρ B kb σ V∧e= .returned (.tuple #[.agg (c.cells V.pv V.iv V.fv V.tv).toArray, .int .i64 0, .int .i64 0]):=by
 subst hp
 exact h
theorem jqf {w w':World} {p:Except (Nat×Int) aqj} {n:Nat} {er:Int} {e:Ending} (h:dq3 w p e w') (hp:p= .error (n,er)):Below w.heap.size w w'∧e= .returned (.tuple #[.agg aqZ.toArray, .int .i64 n, .int .i64 er]):=by
 subst hp
 exact h
theorem lqX (mx:Int) (w:World) (hmx:w.cell? ⟨Tryz.maxB,0,none⟩=some (.int .i64 mx)):
  Calls Tryz.prog 8 #[] w fun e w'=>e= .returned (.bool true)∧Below w.heap.size w w':=by
 have hxw:Tryz.maxB<w.heap.size:=World.block_lt_of_cell? _ _ hmx
 have HMX:=Hq hmx
 obtain⟨c,m,hac,hpl,hml,hcd⟩:=nqR
 clear hmx
 go_enter Tryz.func8,Tryz.ntmps8
 go_wp2_with (go_at_call 9;refine aqa ?_)
 refine aqb ?_
 refine(fq7 iqO mx w HMX.out (by decide) (fun s hs=> .inr (Nat.le_trans (eq2 hs) (by decide)))).mono ?_
 intro e w1 hq
 obtain⟨hb1,ρ,B,kb,σ,V,hB,hσ,hsm,hk,he⟩:=oqO hq hac
 subst hσ
 rw [he]
 obtain⟨g,k4,A,cc,hv,c6,hrd,hg⟩:=oqN hk hml
 obtain⟨Ap,kp,hpv⟩:=aqf hk.pool.1
 obtain⟨Ai,ki,hiv⟩:=aqf hk.ifs.1
 obtain⟨Af,kf,hfv⟩:=aqf hk.flds.1
 rw [show σ.c.pool.length=19 from hpl] at hpv
 rw [hpv,hiv,hfv,hv]
 have HK:=Hq hk
 have HB1:=Hq hb1
 have hz1:=hb1.size
 have HRD:=Hq hrd
 have XZ:=Hq (aqo w1 aqZ 28)
 rw [hcd] at hrd c6
 replace HRD:=Hq hrd
 clear hq hk hb1 hrd he hv hpv hiv hfv hcd hml hac
 go_wp2_with (first| (refine wpList_store_row rfl _ _ _ rfl w1.heap.size (σ.c.cells (.slice Ap 19 kp) (.slice Ai σ.c.ifs.length ki) (.slice Af σ.c.flds.length kf) (.slice (some ⟨g,0,none⟩) 1 k4)).toArray rfl rfl _ _ XZ.out (by kernel_rfl) rfl (by simp [aqj.cells,Value.oneCell']) ?_) | (go_at_call 9;refine aqa ?_))
 refine aqb ?_
 obtain⟨w2,hw2⟩: ∃W,W=(w1.alloc (.cells #[.int .i64 0, .int .i64 0, .slice none 0 0, .int .i64 0, .int .i64 0, .int .i64 0, .slice none 0 0, .slice none 0 0, .slice none 0 0] 28)).setRow w1.heap.size (σ.c.cells (.slice Ap 19 kp) (.slice Ai σ.c.ifs.length ki) (.slice Af σ.c.flds.length kf) (.slice (some ⟨g,0,none⟩) 1 k4)).toArray:=⟨_,rfl⟩
 rw [←hw2]
 have XA:=Hq (show Bx w2 w1.heap.size (σ.c.cells (.slice Ap 19 kp) (.slice Ai σ.c.ifs.length ki) (.slice Af σ.c.flds.length kf) (.slice (some ⟨g,0,none⟩) 1 k4)) 28 by rw [hw2];exact XZ.out.row (σ.c.cells (.slice Ap 19 kp) (.slice Ai σ.c.ifs.length ki) (.slice Af σ.c.flds.length kf) (.slice (some ⟨g,0,none⟩) 1 k4)))
 have hB2:Below w1.heap.size w1 w2:=by rw [hw2];exact bqz ((Below.refl _ _).alloc (Nat.le_refl _) _) _ _ (Nat.le_refl _)
 have HB2:=Hq (HB1.out.trans (hB2.mono (by omega)))
 have hz2:=hB2.size
 have c62:=(hB2.cell (p:=⟨g,6,none⟩) (by show g<w1.heap.size;omega)).trans c6
 have HRD2:=Hq (HRD.out.below hB2)
 have hx2:=XA.out.lt
 clear hw2 hB2 XZ c6
 refine(fq7 ⟨#[]⟩ mx w2 ((HB2.out.cell (p:=⟨Tryz.maxB,0,none⟩) hxw).trans HMX.out) (by decide) (fun s hs=> .inr (Nat.le_trans (eq2 hs) (by decide)))).mono ?_
 intro e w3 hq
 obtain⟨hb3,he⟩:=jqf hq iqc
 rw [he]
 have HB3:=Hq (HB2.out.trans (hb3.mono (by have:=HB2.out.size;omega)))
 have XB:=Hq (XA.out.below hb3 hx2)
 have hz3:=hb3.size
 have c63:=(hb3.cell (p:=⟨g,6,none⟩) (by show g<w2.heap.size;omega)).trans c62
 have HRD3:=Hq (HRD2.out.below hb3)
 have XZ3:=Hq (aqo w3 aqZ 28)
 clear hq hb3 he c62
 have hzz:Value.agg aqZ.toArray= .agg #[.int .i64 0, .int .i64 0, .slice none 0 0, .int .i64 0, .int .i64 0, .int .i64 0, .slice none 0 0, .slice none 0 0, .slice none 0 0]:=rfl
 rw [hzz]
 go_wp2_with (first| (refine wpList_store_row rfl _ _ _ rfl w3.heap.size aqZ.toArray rfl rfl _ _ XZ3.out (by kernel_rfl) rfl (by decide) ?_))
 obtain⟨w4,hw4⟩: ∃W,W=w3.alloc (.cells #[.int .i64 0, .int .i64 0, .slice none 0 0, .int .i64 0, .int .i64 0, .int .i64 0, .slice none 0 0, .slice none 0 0, .slice none 0 0] 28):=⟨_,rfl⟩
 rw [←hw4]
 have hb4:Below w3.heap.size w3 w4:=by rw [hw4];exact(Below.refl _ _).alloc (Nat.le_refl _) _
 have HB4:=Hq (HB3.out.trans (hb4.mono (by have:=HB3.out.size;omega)))
 have XB4:=Hq (XB.out.below hb4 XB.out.lt)
 have c64:=(hb4.cell (p:=⟨g,6,none⟩) (by show g<w3.heap.size;omega)).trans c63
 have hrd4:=HRD3.out.below hb4
 obtain⟨b,off,rfl,hbl,hcc⟩:=hrd4.hat (by decide)
 have e0:w4.cell? ⟨b,off,none⟩=some (.int .u8 178):=hcc 0 (by decide)
 have e1:w4.cell? ⟨b,off+1,none⟩=some (.int .u8 0):=hcc 1 (by decide)
 have e2:w4.cell? ⟨b,off+2,none⟩=some (.int .u8 13):=hcc 2 (by decide)
 have e3:w4.cell? ⟨b,off+3,none⟩=some (.int .u8 184):=hcc 3 (by decide)
 have e4:w4.cell? ⟨b,off+4,none⟩=some (.int .u8 0):=hcc 4 (by decide)
 have e5:w4.cell? ⟨b,off+5,none⟩=some (.int .u8 19):=hcc 5 (by decide)
 have e6:w4.cell? ⟨b,off+6,none⟩=some (.int .u8 177):=hcc 6 (by decide)
 have d2:=XB4.out.cell 2 rfl
 have d8:=XB4.out.cell 8 rfl
 obtain⟨y1,y2,y3,y4,y5,y6,y7,y8,y9,y10,y11,y12⟩:=far b w4.heap.size hbl
 obtain⟨v1,v2,v3,v4,v5,v6,v7,v8,v9,v10,v11,v12⟩:=far g w4.heap.size (by have:=hb4.size;omega)
 obtain⟨t1,t2,t3,t4,t5,t6,t7,t8,t9,t10,t11,t12⟩:=far w1.heap.size w4.heap.size XB4.out.lt
 have HW4:=Hq hw4
 clear hw4 hb4 hcc hrd4 c63 HRD HRD2 HRD3 XA XB XB4 XZ3 hpl
 have hcv:=conv7
 have HCL:=Hq (fun(x:Int) (W:World)=>lqW x W)
 go_region_law (first| (go_simp;go_at_call 11;go_loud (with_reducible refine(HCL.out _ _).mono ?_;rintro e w9 ⟨rfl,rfl⟩)))
 all_goals
  have hz4:=HB4.out.size
  go_wp2_with fail
  go_ret
  refine⟨by first|rfl| (simp;done) |decide, ?_⟩
  repeat' (first|with_reducible exact HB4.out|with_reducible refine Below.drew ?_|with_reducible refine Below.alloc ?_ (by first|omega| (simp;omega)) _)
theorem asm_err (text:ByteArray) (mx:Int) (w:World) (n:Nat) (er:Int) (hmx:w.cell? ⟨Tryz.maxB,0,none⟩=some (.int .i64 mx)) (hts:text.size≤1000000) (hls: ∀s∈aqI text,oqV s∨s.size≤65536) (hp:cq9 aq1 text= .error (n,er)):
  Calls Tryz.prog 9 #[.string text] w fun e w'=>Below w.heap.size w w'∧e= .returned (.tuple #[.agg aqZ.toArray, .int .i64 n, .int .i64 er]):=(fq7 text mx w hmx hts hls).mono fun e w' hq=>jqf hq hp
def noC:aqj:=⟨0,0, [],0,0,0, [], [], []⟩
def lqY:Except (Nat×Int) aqj→aqj
 | .ok c=>c
 | .error _=>noC
def oqP:Except (Nat×Int) aqj→Nat
 | .ok _=>0
 | .error (n,_)=>n
def oqQ:Except (Nat×Int) aqj→Int
 | .ok _=>0
 | .error (_,e)=>e
theorem nq9 (w:World) (ok:Nat→Prop):aq9 w ok noC (.slice none 0 0) (.slice none 0 0) (.slice none 0 0) (.slice none 0 0):=
 ⟨eqz w ok 5,eqz w ok 1,eqz w ok 4, [],rfl,eqz w ok 8,fun m hm=>by cases hm⟩
theorem nqS {w w':World} {p:Except (Nat×Int) aqj} {e:Ending} (h:dq3 w p e w'):Below w.heap.size w w'∧ ∃a1 a2 a3 a4,aq9 w' (fun g=>w.heap.size≤g) (lqY p) a1 a2 a3 a4∧e= .returned (.tuple #[.agg ((lqY p).cells a1 a2 a3 a4).toArray, .int .i64 (oqP p), .int .i64 (oqQ p)]):=by
 obtain⟨hb,h⟩:=h
 refine⟨hb, ?_⟩
 cases p with
 |error q=>exact⟨_,_,_,_,nq9 w' _,h⟩
 |ok c=>
  obtain⟨ρ,B,kb,σ,V,h1,h2,h3,h4,h5⟩:=h
  subst h2
  exact⟨_,_,_,_,(jqa h4 h3 (Nat.le_refl _)).mono fun g _ hg=>Nat.le_trans h1 hg.1,h5⟩
def lqZ (w:World) (p:Except (Nat×Int) aqj) (e:Ending) (w':World):Prop:=Below w.heap.size w w'∧ ∃a1 a2 a3 a4,aq9 w' (fun g=>w.heap.size≤g) (lqY p) a1 a2 a3 a4∧e= .returned (.tuple #[.agg ((lqY p).cells a1 a2 a3 a4).toArray, .int .i64 (oqP p), .int .i64 (oqQ p)])
theorem oqR (text:ByteArray) (mx:Int) (w:World) (hmx:w.cell? ⟨Tryz.maxB,0,none⟩=some (.int .i64 mx)) (hts:text.size≤1000000) (hls: ∀s∈aqI text,oqV s∨s.size≤65536):
  Calls Tryz.prog 9 #[.string text] w (lqZ w (cq9 aq1 text)):=(fq7 text mx w hmx hts hls).mono fun _ _ h=>nqS h
structure RdI (w:World) (A:Option Addr) (len cap:Nat) (l:List Int):Prop where
 hlen:len=l.length
 hat: ∀i x,l[i]?=some x→ ∃b off,A=some ⟨b,off,none⟩∧b<w.heap.size∧w.cell? ⟨b,off+i,none⟩=some (.int .i64 x)
theorem rdI_row {w:World} {a:Option Addr} {len cap:Nat} {zs:List Int}
  (h:(a=none∧len=0∧cap=0∧zs= [])∨
   ∃x,a=some x∧len≤cap∧cap≤maxLen∧zs.length=cap∧(∀i,i<zs.length→w.cell? (x.add i)=some (.int .i64 (zs.getD i 0)))∧ ∀n∈zs,(Lit.int .i64 n).wf=true):RdI w a len cap (zs.take len):=by
 rcases h with⟨rfl,rfl,rfl,rfl⟩ | ⟨x,rfl,hl,hm,hz,hc,hw⟩
 ·exact⟨rfl,fun i x hi=>by simp at hi⟩
 refine⟨by simp;omega,fun i v hi=> ?_⟩
 have hlt:i<zs.length:=by
  have:=(List.getElem?_eq_some_iff.1 hi).1
  simp at this
  omega
 rw [List.getElem?_take] at hi
 split at hi
 ·have h2:=hc i hlt
  have h1:=hc 0 (by omega)
  rw [List.getD_eq_getElem?_getD,hi] at h2
  obtain⟨b,off,spot⟩:=x
  have hs:spot=none:=by
   rcases spot with _|s
   ·rfl
   exfalso
   simp [Addr.add,World.cell?] at h1
   split at h1<;>simp at h1
  subst hs
  rw [dqv] at h2
  exact⟨b,off,rfl,World.block_lt_of_cell? _ _ h2,h2⟩
 cases hi
theorem oq5 {w:World} {B:Nat} {L:List (List UInt8)} {A:Option Addr} {n k:Nat} (h:w.ownsRow B 9 1 (.slice A n k) n (fq9 L)) {i:Nat} {l:List UInt8} (hi:L[i]?=some l):
  ∃g,A=some ⟨g,0,none⟩∧B≤g∧g<w.heap.size∧w.cell? ⟨g,i,none⟩=some (.string ⟨l.toArray⟩):=by
 have hl:=h.1
 have hlt:=(List.getElem?_eq_some_iff.1 hi).1
 have hn:L.length=n:=by simpa [fq9] using hl
 rcases Go.Joins.ownsRow_forms h with⟨e,h0⟩ | ⟨g,cap,e⟩
 ·omega
 cases e
 exact⟨g,rfl,(h.lt g rfl).1,(h.lt g rfl).2,by rw [h.cellAt i (by omega),fq9,List.getElem?_map,hi];rfl⟩
end Go.Proofs.YtlcidkiplidamaaGreatDoor
