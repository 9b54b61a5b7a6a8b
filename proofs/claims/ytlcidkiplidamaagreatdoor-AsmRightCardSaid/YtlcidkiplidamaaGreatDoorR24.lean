/-
  What the laws rest on, part 24: walks of the program's functions and plain laws. Conditions: none but those that each theorem names.
-/
import Derived.Test.YtlcidkiplidamaaGreatDoorR23
set_option linter.unusedSimpArgs false
set_option linter.unusedVariables false
set_option maxRecDepth 100000
set_option maxHeartbeats 4000000
namespace Go.Proofs.YtlcidkiplidamaaGreatDoor
open Go Go.RowKit Lib Go.Maps
theorem LPost.weak {cs cs':List Nat} {w w1 w':World} {ρ ρ1:Nat→Nat} {B kb line:Nat} {p:Option AsK} {e:Ending} (G:Chg cs w ρ w1 ρ1) (hb:Below B w w1) (hs: ∀c∈cs',c∈cs) (h:LPost cs' w1 ρ1 B kb line p e w'):LPost cs w ρ B kb line p e w':=by
 cases p with
 |none=>exact⟨h.1,hb.trans h.2⟩
 |some σ'=>
  obtain⟨h1,ρ',V',h2,h3,h4⟩:=h
  exact⟨h1,ρ',V',h2,h3,G.trans (h4.mono hs)⟩
theorem object_line (σ:AsK):σ.object.line=σ.line:=by unfold AsK.object;split<;>rfl
theorem object_m (σ:AsK):σ.object.m=σ.m:=by unfold AsK.object;split<;>rfl
theorem object_flds (σ:AsK):σ.object.c.flds=σ.c.flds:=by unfold AsK.object;split<;>rfl
theorem object_mths (σ:AsK):σ.object.c.mths=σ.c.mths:=by unfold AsK.object;split<;>rfl
theorem object_ifs (σ:AsK):σ.object.c.ifs=σ.c.ifs:=by unfold AsK.object;split<;>rfl
theorem object_pool {σ:AsK} {N:Nat} (h:σ.c.pool.length≤N):σ.object.c.pool.length≤N+2:=by
 unfold AsK.object
 split
 ·exact(len_cls (s:=objectS) h).1
 ·omega
theorem isW_head {ws:List ByteArray} {s0:ByteArray} (h:ws[0]?=some s0) (l:List UInt8):isW ws l=(s0.toList==l):=by
 unfold isW
 cases ws with
 |nil=>cases h
 |cons a b=>
  cases h
  rw [ByteArray.toList_eq]
  rfl
theorem info_aint:(Tryz.prog.info? 3).map (fun i=> (i.zero,i.size,i.bytes))=some (some (.int .i64 0),1,8):=by kernel_rfl
def AsK.clsLine (σ:AsK) (s1:ByteArray) (acc:Nat):AsK:={ (σ.cls s1).2 with c:={ (σ.cls s1).2.c with acc:=acc,this:=(σ.cls s1).1 },part:=1 }
def AsK.supLine (σ:AsK) (s1:ByteArray):AsK:={ (σ.cls s1).2 with c:={ (σ.cls s1).2.c with sup:=(σ.cls s1).1 },part:=2 }
def AsK.impLine (σ:AsK) (s1:ByteArray):AsK:={ (σ.cls s1).2 with c:={ (σ.cls s1).2.c with ifs:=(σ.cls s1).2.c.ifs++ [((σ.cls s1).1:Int)] },part:=3 }
theorem outside_eq (σ:AsK) (ws:List ByteArray):σ.outside ws=
  if σ.part=0 then(if isW ws [99,108,97,115,115]=true∧1<ws.length then(aFlags (ws.drop 2) 0).map (fun acc=>σ.clsLine (ws.getD 1 ⟨#[]⟩) acc) else none)
  else if isW ws [115,117,112,101,114]=true then(if σ.part=1∧ws.length=2 then some (σ.supLine (ws.getD 1 ⟨#[]⟩)) else none)
  else if isW ws [105,109,112,108,101,109,101,110,116,115]=true then(if σ.object.part≤3∧ws.length=2 then some (σ.object.impLine (ws.getD 1 ⟨#[]⟩)) else none)
  else if isW ws [102,105,101,108,100]=true then(if σ.object.part≤4∧2<ws.length then{ σ.object with part:=4:AsK }.field ws else none)
  else if isW ws [109,101,116,104,111,100]=true then(if 2<ws.length then{ σ.object with part:=5:AsK }.begin ws else none)
  else none:=by
 unfold AsK.outside
 split
 ·split
  ·cases aFlags (ws.drop 2) 0<;>rfl
  ·rfl
 ·rfl
theorem outside_any (ρ:Nat→Nat) (B kb:Nat) (σ:AsK) (V:MkV) (A:Option Addr) (n cap:Nat) (ws:List ByteArray) (w:World) (h:MkC w ρ B kb σ V) (ho:OpenC w ρ B V.mv σ.m) (hw:WdA w (Un ρ) A n cap ws) (hz:SmW ws) (hn:0<n) (hl:σ.c.pool.length≤998000) (hlf:σ.c.flds.length≤999000) (hlm:σ.c.mths.length≤999000) (hli:σ.c.ifs.length≤999000):
  Calls Tryz.prog 25 #[.pointer (some ⟨kb,0,none⟩), .slice A n cap] w (LPost [1,2,3,4,5,6] w ρ B kb σ.line (σ.outside ws)):=by
 have H:=Lib.hid h
 have HO:=Lib.hid ho
 have HW:=Lib.hid hw
 have HZ:=Lib.hid hz
 have HLN:=Lib.hid hw.len
 have hle:=hw.le
 have hmx:=hw.max
 obtain⟨b,off,hA,hb,hub,hc⟩:=hw.hat (by omega)
 subst hA
 have HUB:=Lib.hid hub
 have HC:=Lib.hid hc
 obtain⟨s0,hs0⟩: ∃s,ws[0]?=some s:=⟨_,List.getElem?_eq_getElem (by rw [←hw.len];omega)⟩
 have HI:=Lib.hid (isW_head hs0)
 have w0:=hc 0 s0 hs0
 rw [Nat.add_zero] at w0
 have hB:=h.hB
 have hkl:=h.box.lt
 have c10:=h.box.cell 10 rfl
 have HOE:=Lib.hid (outside_eq σ ws)
 have GR:=Lib.hid (Chg.refl [1,2,3,4,5,6] w ρ)
 clear hw hz h ho hc hs0 hub
 by_cases hp:σ.part=0
 ·have hp0:((σ.part:Int)==0)=true:=by rw [hp];rfl
  have HOE:=Lib.hid (HOE.out.trans (if_pos hp))
  rw [hp] at c10
  clear hp
  by_cases hcl:(s0.toList== [99,108,97,115,115])=true
  ·by_cases h1:1<n
   ·obtain⟨s1,hs1⟩: ∃s,ws[1]?=some s:=⟨_,List.getElem?_eq_getElem (by rw [←HLN.out];omega)⟩
    have HFD:=Lib.hid (HOE.out.trans (if_pos ⟨by rw [HI.out];exact hcl,by rw [←HLN.out];exact h1⟩))
    rw [getD_of hs1] at HFD
    have z1:=HZ.out s1 (List.mem_of_getElem? hs1)
    have HW1:=Lib.hid (HC.out 1 s1 hs1)
    have HTK:=Lib.hid (show ws.take n=ws from List.take_of_length_le (by rw [←HLN.out];exact Nat.le_refl _))
    have h1':(1:Int) < (n:Int):=by omega
    clear hs1
    rcases Nat.lt_or_ge 2 cap with h3|h3
    ·go_enter Tryz.func25,Tryz.ntmps25
     go_wp2_with (go_at_call 26;refine stop_here ?_)
     refine go_on ?_
     refine(must_yes kb _ σ.line _ H.out.box rfl).mono ?_
     rintro e wz ⟨rfl,rfl⟩
     go_wp2_with (go_at_call 58;refine stop_here ?_)
     refine go_on ?_
     refine(aflags_any kb _ σ.line _ _ _ _ _ _ H.out.box rfl (HW.out.part 2 n (by omega) (by omega) _ (fun _=>rfl)) (HZ.out.part 2 n)).mono ?_
     intro e wq hq
     rw [HTK.out] at hq
     rcases fpost_cases hq with⟨hp,rfl,hbq⟩ | ⟨acc,hp,rfl,hbq⟩
     ·have HN:=Lib.hid (show σ.outside ws=none from HFD.out.trans (by rw [hp] <;>rfl))
      have BB:=Lib.hid (hbq.mono hB)
      clear hp hbq hq
      go_wp2_with fail
      exact(show _∧_ from⟨rfl,lpost_none HN.out BB.out⟩)
     ·have HFD2:=Lib.hid (show σ.outside ws=some (σ.clsLine s1 acc) from HFD.out.trans (by rw [hp] <;>rfl))
      have M0:=Lib.hid (H.out.below hbq)
      have G0:=Lib.hid (GR.out.trans (Chg.of_below hbq))
      clear hp hbq hq c10
      have d3:=M0.out.box.cell 3 rfl
      have zd3:=M0.out.box.frozen 3
      have M1:=Lib.hid (M0.out.setc 3 (.int .i64 acc) (σ':={ σ with c:={ σ.c with acc:=acc } }) (V':=V) rfl rfl rfl rfl rfl ⟨rfl,rfl,rfl,rfl,rfl⟩)
      have G1:=Lib.hid (G0.out.trans (M1.out.2.mono (by simp)))
      have c1:=(G0.out.cell0 (by decide) hb HUB.out (off+1)).trans HW1.out
      have hbk: ¬b=kb:=fun e=>by have h1:=H.out.kc;rw [←e,show ρ b=0 from HUB.out] at h1;omega
      have hbk2: ¬kb=b:=fun e=>hbk e.symm
      go_wp2_with (go_at_call 56;refine stop_here ?_)
      refine go_on ?_
      refine(acls_any ρ B kb { σ with c:={ σ.c with acc:=acc } } V s1 _ M1.out.1 z1 (show σ.c.pool.length≤999999 by omega)).mono ?_
      rintro e w2 ⟨rfl,ρ1,pv1,hm,hg⟩
      have M2:=Lib.hid hm
      have G2:=Lib.hid (G1.out.trans (hg.mono (by simp)))
      have d4:=hm.box.cell 4 rfl
      have zd4:=hm.box.frozen 4
      have d10:=hm.box.cell 10 rfl
      have zd10:=hm.box.frozen 10
      clear hm hg c1 d3 zd3
      go_wp2_with fail
      have M3:=Lib.hid (M2.out.setc 4 (.int .i64 (σ.cls s1).1) (σ':={ (σ.cls s1).2 with c:={ (σ.cls s1).2.c with acc:=acc,this:=(σ.cls s1).1 } }) (V':={ V with pv:=pv1 }) rfl rfl rfl rfl rfl ⟨rfl,rfl,rfl,rfl,rfl⟩)
      have M4:=Lib.hid (M3.out.1.setc 10 (.int .i64 1) (σ':=σ.clsLine s1 acc) (V':={ V with pv:=pv1 }) rfl rfl rfl rfl rfl ⟨rfl,rfl,rfl,rfl,rfl⟩)
      have G4:=Lib.hid (G2.out.trans ((M3.out.2.trans M4.out.2).mono (by simp)))
      refine⟨rfl, .tuple #[],by simp [results,Tryz.results25], ?_⟩
      exact lpost_some (V':={ V with pv:=pv1 }) HFD2.out rfl M4.out.1 (HO.out.keep G4.out (by intro c h1 h2 hm;simp at hm;omega)) G4.out
    ·obtain rfl:cap=2:=by omega
     obtain rfl:n=2:=by omega
     go_enter Tryz.func25,Tryz.ntmps25
     go_wp2_with (go_at_call 26;refine stop_here ?_)
     refine go_on ?_
     refine(must_yes kb _ σ.line _ H.out.box rfl).mono ?_
     rintro e wz ⟨rfl,rfl⟩
     go_wp2_with (go_at_call 58;refine stop_here ?_)
     refine go_on ?_
     refine(aflags_any kb _ σ.line _ _ _ _ _ _ H.out.box rfl (HW.out.part 2 2 (by omega) (by omega) _ (fun h=>absurd h (by omega))) (HZ.out.part 2 2)).mono ?_
     intro e wq hq
     rw [HTK.out] at hq
     rcases fpost_cases hq with⟨hp,rfl,hbq⟩ | ⟨acc,hp,rfl,hbq⟩
     ·have HN:=Lib.hid (show σ.outside ws=none from HFD.out.trans (by rw [hp] <;>rfl))
      have BB:=Lib.hid (hbq.mono hB)
      clear hp hbq hq
      go_wp2_with fail
      exact(show _∧_ from⟨rfl,lpost_none HN.out BB.out⟩)
     ·have HFD2:=Lib.hid (show σ.outside ws=some (σ.clsLine s1 acc) from HFD.out.trans (by rw [hp] <;>rfl))
      have M0:=Lib.hid (H.out.below hbq)
      have G0:=Lib.hid (GR.out.trans (Chg.of_below hbq))
      clear hp hbq hq c10
      have d3:=M0.out.box.cell 3 rfl
      have zd3:=M0.out.box.frozen 3
      have M1:=Lib.hid (M0.out.setc 3 (.int .i64 acc) (σ':={ σ with c:={ σ.c with acc:=acc } }) (V':=V) rfl rfl rfl rfl rfl ⟨rfl,rfl,rfl,rfl,rfl⟩)
      have G1:=Lib.hid (G0.out.trans (M1.out.2.mono (by simp)))
      have c1:=(G0.out.cell0 (by decide) hb HUB.out (off+1)).trans HW1.out
      have hbk: ¬b=kb:=fun e=>by have h1:=H.out.kc;rw [←e,show ρ b=0 from HUB.out] at h1;omega
      have hbk2: ¬kb=b:=fun e=>hbk e.symm
      go_wp2_with (go_at_call 56;refine stop_here ?_)
      refine go_on ?_
      refine(acls_any ρ B kb { σ with c:={ σ.c with acc:=acc } } V s1 _ M1.out.1 z1 (show σ.c.pool.length≤999999 by omega)).mono ?_
      rintro e w2 ⟨rfl,ρ1,pv1,hm,hg⟩
      have M2:=Lib.hid hm
      have G2:=Lib.hid (G1.out.trans (hg.mono (by simp)))
      have d4:=hm.box.cell 4 rfl
      have zd4:=hm.box.frozen 4
      have d10:=hm.box.cell 10 rfl
      have zd10:=hm.box.frozen 10
      clear hm hg c1 d3 zd3
      go_wp2_with fail
      have M3:=Lib.hid (M2.out.setc 4 (.int .i64 (σ.cls s1).1) (σ':={ (σ.cls s1).2 with c:={ (σ.cls s1).2.c with acc:=acc,this:=(σ.cls s1).1 } }) (V':={ V with pv:=pv1 }) rfl rfl rfl rfl rfl ⟨rfl,rfl,rfl,rfl,rfl⟩)
      have M4:=Lib.hid (M3.out.1.setc 10 (.int .i64 1) (σ':=σ.clsLine s1 acc) (V':={ V with pv:=pv1 }) rfl rfl rfl rfl rfl ⟨rfl,rfl,rfl,rfl,rfl⟩)
      have G4:=Lib.hid (G2.out.trans ((M3.out.2.trans M4.out.2).mono (by simp)))
      refine⟨rfl, .tuple #[],by simp [results,Tryz.results25], ?_⟩
      exact lpost_some (V':={ V with pv:=pv1 }) HFD2.out rfl M4.out.1 (HO.out.keep G4.out (by intro c h1 h2 hm;simp at hm;omega)) G4.out
   ·have HN:=Lib.hid (show σ.outside ws=none from HOE.out.trans (if_neg (fun h=>h1 (by rw [HLN.out];exact h.2))))
    have h1': ¬(1:Int) < (n:Int):=by omega
    go_enter Tryz.func25,Tryz.ntmps25
    go_wp2_with (go_at_call 26;refine stop_here ?_)
    refine go_on ?_
    refine(must_no kb _ σ.line _ H.out.box rfl).mono ?_
    rintro e wz ⟨rfl,rfl⟩
    go_wp2_with fail
    exact(show _∧_ from⟨rfl,lpost_none HN.out (Below.refl _ _)⟩)
  ·have hcl':(s0.toList== [99,108,97,115,115])=false:=by simpa using hcl
   have HN:=Lib.hid (show σ.outside ws=none from HOE.out.trans (if_neg (fun h=>hcl (by rw [←HI.out];exact h.1))))
   clear hcl
   go_enter Tryz.func25,Tryz.ntmps25
   go_wp2_with (go_at_call 26;refine stop_here ?_)
   refine go_on ?_
   refine(must_no kb _ σ.line _ H.out.box rfl).mono ?_
   rintro e wz ⟨rfl,rfl⟩
   go_wp2_with fail
   exact(show _∧_ from⟨rfl,lpost_none HN.out (Below.refl _ _)⟩)
 ·have hp0:((σ.part:Int)==0)=false:=by rw [beq_eq_false_iff_ne];omega
  have HOE:=Lib.hid (HOE.out.trans (if_neg hp))
  clear hp
  by_cases hsu:(s0.toList== [115,117,112,101,114])=true
  ·have HOE:=Lib.hid (HOE.out.trans (if_pos (by rw [HI.out];exact hsu)))
   by_cases hp1:σ.part=1
   ·rw [hp1] at c10
    by_cases h2:n=2
    ·obtain⟨s1,hs1⟩: ∃s,ws[1]?=some s:=⟨_,List.getElem?_eq_getElem (by rw [←HLN.out];omega)⟩
     have HFD:=Lib.hid (HOE.out.trans (if_pos ⟨hp1,by rw [←HLN.out];exact h2⟩))
     rw [getD_of hs1] at HFD
     have z1:=HZ.out s1 (List.mem_of_getElem? hs1)
     have c1:=HC.out 1 s1 hs1
     subst h2
     clear hs1 hp1
     go_enter Tryz.func25,Tryz.ntmps25
     go_wp2_with (go_at_call 26;refine stop_here ?_)
     refine go_on ?_
     refine(must_yes kb _ σ.line _ H.out.box rfl).mono ?_
     rintro e wz ⟨rfl,rfl⟩
     go_wp2_with (go_at_call 56;refine stop_here ?_)
     refine go_on ?_
     refine(acls_any ρ B kb σ V s1 _ H.out z1 (by omega)).mono ?_
     rintro e w2 ⟨rfl,ρ1,pv1,hm,hg⟩
     have M2:=Lib.hid hm
     have G2:=Lib.hid (GR.out.trans (hg.mono (by simp)))
     have d5:=hm.box.cell 5 rfl
     have zd5:=hm.box.frozen 5
     have d10:=hm.box.cell 10 rfl
     have zd10:=hm.box.frozen 10
     clear hm hg c1
     go_wp2_with fail
     have M3:=Lib.hid (M2.out.setc 5 (.int .i64 (σ.cls s1).1) (σ':={ (σ.cls s1).2 with c:={ (σ.cls s1).2.c with sup:=(σ.cls s1).1 } }) (V':={ V with pv:=pv1 }) rfl rfl rfl rfl rfl ⟨rfl,rfl,rfl,rfl,rfl⟩)
     have M4:=Lib.hid (M3.out.1.setc 10 (.int .i64 2) (σ':=σ.supLine s1) (V':={ V with pv:=pv1 }) rfl rfl rfl rfl rfl ⟨rfl,rfl,rfl,rfl,rfl⟩)
     have G4:=Lib.hid (G2.out.trans ((M3.out.2.trans M4.out.2).mono (by simp)))
     refine⟨rfl, .tuple #[],by simp [results,Tryz.results25], ?_⟩
     exact lpost_some (V':={ V with pv:=pv1 }) HFD.out rfl M4.out.1 (HO.out.keep G4.out (by intro c h1 h2 hm;simp at hm;omega)) G4.out
    ·have HN:=Lib.hid (show σ.outside ws=none from HOE.out.trans (if_neg (fun h=>h2 (by rw [HLN.out];exact h.2))))
     have h2':((n:Int)==2)=false:=by rw [beq_eq_false_iff_ne];omega
     clear hp1
     go_enter Tryz.func25,Tryz.ntmps25
     go_wp2_with (go_at_call 26;refine stop_here ?_)
     refine go_on ?_
     refine(must_no kb _ σ.line _ H.out.box rfl).mono ?_
     rintro e wz ⟨rfl,rfl⟩
     go_wp2_with fail
     exact(show _∧_ from⟨rfl,lpost_none HN.out (Below.refl _ _)⟩)
   ·have HN:=Lib.hid (show σ.outside ws=none from HOE.out.trans (if_neg (fun h=>hp1 h.1)))
    have hp1':((σ.part:Int)==1)=false:=by rw [beq_eq_false_iff_ne];omega
    clear hp1
    go_enter Tryz.func25,Tryz.ntmps25
    go_wp2_with (go_at_call 26;refine stop_here ?_)
    refine go_on ?_
    refine(must_no kb _ σ.line _ H.out.box rfl).mono ?_
    rintro e wz ⟨rfl,rfl⟩
    go_wp2_with fail
    exact(show _∧_ from⟨rfl,lpost_none HN.out (Below.refl _ _)⟩)
  ·have HOE:=Lib.hid (HOE.out.trans (if_neg (by rw [HI.out];exact fun h=>hsu h)))
   have hsu':(s0.toList== [115,117,112,101,114])=false:=by simpa using hsu
   clear hsu
   obtain⟨τ,hτ⟩: ∃τ,τ=σ.object:=⟨_,rfl⟩
   have HT:=Lib.hid hτ
   rw [←hτ] at HOE
   have HTL:=Lib.hid (show τ.line=σ.line by rw [hτ];exact object_line σ)
   have HTM:=Lib.hid (show τ.m=σ.m by rw [hτ];exact object_m σ)
   have HTQ:=Lib.hid (show τ.c.flds=σ.c.flds by rw [hτ];exact object_flds σ)
   have HTM2:=Lib.hid (show τ.c.mths=σ.c.mths by rw [hτ];exact object_mths σ)
   have HTI:=Lib.hid (show τ.c.ifs=σ.c.ifs by rw [hτ];exact object_ifs σ)
   have hlτ:τ.c.pool.length≤998002:=by rw [hτ];exact object_pool hl
   clear hτ
   by_cases hi:(s0.toList== [105,109,112,108,101,109,101,110,116,115])=true
   ·have HOE:=Lib.hid (HOE.out.trans (if_pos (by rw [HI.out];exact hi)))
    by_cases hp3:τ.part≤3
    ·have hp3':(τ.part:Int)≤3:=by omega
     by_cases h2:n=2
     ·have h2':((n:Int)==2)=true:=by rw [h2];rfl
      obtain⟨s1,hs1⟩: ∃s,ws[1]?=some s:=⟨_,List.getElem?_eq_getElem (by rw [←HLN.out];omega)⟩
      have HFD:=Lib.hid (HOE.out.trans (if_pos ⟨hp3,by rw [←HLN.out];exact h2⟩))
      rw [getD_of hs1] at HFD
      have z1:=HZ.out s1 (List.mem_of_getElem? hs1)
      have HW1:=Lib.hid (HC.out 1 s1 hs1)
      clear hs1
      subst h2
      go_enter Tryz.func25,Tryz.ntmps25
      go_wp2_with (go_at_call 27;refine stop_here ?_)
      refine go_on ?_
      refine(object_any ρ B kb σ V _ H.out (by omega)).mono ?_
      rintro e w1 ⟨rfl,ρ1,pv1,hm,hg⟩
      have M1:=Lib.hid (show MkC w1 ρ1 B kb τ { V with pv:=pv1 } by rw [HT.out];exact hm)
      have G1:=Lib.hid (GR.out.trans (hg.mono (by simp)))
      have B1:=Lib.hid (hg.below H.out.low hB (by decide))
      have W1:=Lib.hid (HW.out.chg hg (by decide))
      have O1:=Lib.hid (show OpenC w1 ρ1 B V.mv τ.m by rw [HTM.out];exact HO.out.keep hg (by intro c h1 h2 hm;simp at hm;omega))
      have c0:=(hg.cell0 (by decide) hb HUB.out off).trans w0
      have d10:=M1.out.box.cell 10 rfl
      have zd10:=M1.out.box.frozen 10
      clear hm hg w0 c10
      go_wp2_with (go_at_call 26;refine stop_here ?_)
      refine go_on ?_
      refine(must_yes kb _ τ.line _ M1.out.box rfl).mono ?_
      rintro e wz ⟨rfl,rfl⟩
      have M2:=Lib.hid (M1.out.setc 10 (.int .i64 3) (σ':={ τ with part:=3 }) (V':={ V with pv:=pv1 }) rfl rfl rfl rfl rfl ⟨rfl,rfl,rfl,rfl,rfl⟩)
      have B2:=Lib.hid (B1.out.trans (M2.out.2.below M1.out.low M1.out.hB (by decide)))
      have G2:=Lib.hid (G1.out.trans (M2.out.2.mono (by simp)))
      have W2:=Lib.hid (W1.out.chg M2.out.2 (by decide))
      have O2:=Lib.hid (O1.out.keep M2.out.2 (by intro c h1 h2 hm;simp at hm;omega))
      have hbk: ¬b=kb:=fun e=>by have h1:=H.out.kc;rw [←e,show ρ b=0 from HUB.out] at h1;omega
      have hbk2: ¬kb=b:=fun e=>hbk e.symm
      go_wp2_with fail
      obtain⟨w2,hw2⟩: ∃W,W=wz.setCell ⟨kb,10,none⟩ (.int .i64 3):=⟨_,rfl⟩
      rw [←hw2]
      rw [←hw2] at M2 B2 G2 W2 O2
      have M2:=Lib.hid M2.out.1
      have e1:=(G2.out.cell0 (by decide) hb HUB.out (off+1)).trans HW1.out
      have e6:=M2.out.box.cell 6 rfl
      have ze6:=M2.out.box.frozen 6
      have hl2:=len_cls (s:=s1) (σ:={ τ with part:=3 }) (N:=998002) (show τ.c.pool.length≤998002 by omega)
      clear hw2
      go_region_law (first
       | (refine step_lies rfl (.tmp 97) (.tmp 103) 24 rfl Tryz.underlying24 info_aint rfl (by omega) B rfl ((own_heap M3.out.ifs.1 (fun _ _=>rfl)).alloc _) rfl rfl (cells_new_at _ _ _ _ (by first|rfl|omega| (simp<;>omega))) (by simp [Value.oneCell']) (by omega) (by simp only [maxLen];omega) (by omega) (by first|omega| (simp<;>omega)) ?_
          intro g6 cap6 W' ho hg hb hgg
          have HO6:=Lib.hid ho
          have HG6:=Lib.hid hg
          have X6:=Lib.hid (show Bx W' kb (mkCells (({ τ with part:=3 }:AsK).cls s1).2 { V with pv:=pv2 }) 67 from(hg.block kb (by first|omega| (simp;omega)) (fun e=>hnk e.symm)).trans ((Below.heap_alloc _ _ _ (by first|omega| (simp;omega))).trans M3.out.box))
          have c6:=X6.out.cell 6 rfl
          have z6:=X6.out.frozen 6
          have HGG:=Lib.hid hgg
          clear ho hg hb hgg)
       | (go_simp;go_at_call 56;refine(acls_any ρ1 B kb { τ with part:=3 } { V with pv:=pv1 } s1 _ (M2.out.below (by repeat' (first|with_reducible exact Below.refl _ _|with_reducible refine below_drewN ?_ _|with_reducible refine Below.drew ?_))) z1 (show τ.c.pool.length≤999999 by omega)).mono ?_
          rintro e w3 ⟨rfl,ρ2,pv2,hm,hg⟩
          have M3:=Lib.hid hm
          have G3:=Lib.hid ((G2.out.trans (Chg.of_below (by repeat' (first|with_reducible exact Below.refl _ _|with_reducible refine below_drewN ?_ _|with_reducible refine Below.drew ?_)))).trans (hg.mono (by simp)))
          have O3:=Lib.hid ((O2.out.keep (cs:= []) (Chg.of_below (by repeat' (first|with_reducible exact Below.refl _ _|with_reducible refine below_drewN ?_ _|with_reducible refine Below.drew ?_))) (by simp)).keep hg (by intro c h1 h2 hm;simp at hm;omega))
          have e6:=hm.box.cell 6 rfl
          have ze6:=hm.box.frozen 6
          have hkw:=hm.box.lt
          have hBw:=hm.hB
          obtain⟨v1,v2,v3,v4,v5,v6,v7,v8,v9,v10,v11,v12⟩:=far kb w3.heap.size hkw
          have hnk:V.iv.ownBlock≠some kb:=fun e=>by have h1:=hm.ifs.2 _ e;rw [hm.kc] at h1;omega
          have hli3:(({ τ with part:=3 }:AsK).cls s1).2.c.ifs.length≤999000:=by show τ.c.ifs.length≤999000;rw [HTI.out];exact hli
          clear hm hg))
      all_goals
       go_wp2_with fail
       have hg6:V.iv.ownBlock=some g6∨w3.heap.size≤g6:=by
        rcases HGG.out with e|e
        ·exact .inl e
        ·right
         first|omega| (simp at e;omega)
       have hgk:g6≠kb:=by
        rintro rfl
        rcases hg6 with e|e
        ·exact hnk e
        ·omega
       have hz6':w3.heap.size+1≤W'.heap.size:=Nat.le_trans (Nat.le_of_eq (World.size_alloc w3 _).symm) HG6.out.size
       obtain⟨ρ',iv',hM,hC⟩:=M3.out.addI (x:=((({ τ with part:=3 }:AsK).cls s1).1:Int)) (w':=W'.setCell ⟨kb,6,none⟩ (.slice (some ⟨g6,0,none⟩) ((({ τ with part:=3 }:AsK).cls s1).2.c.ifs.length+1) cap6)) (g:=g6) (cap:=cap6) HG6.out.os HG6.out.tape HG6.out.output (by first|omega| (simp;omega))
        (fun q hq h1 h2=> (Below.heap_setCell _ _ _ _ h1).trans ((HG6.out.block q (by first|omega| (simp;omega)) (fun e=>h2 e.symm)).trans (Below.heap_alloc _ _ _ (by first|omega| (simp;omega)))))
        (X6.out.set 6 _) (own_set HO6.out hgk _) hg6
       refine⟨rfl, .tuple #[],by simp [results,Tryz.results25], ?_⟩
       exact lpost_some (V':={ V with pv:=pv2,iv:=iv' }) HFD.out rfl (show MkC _ ρ' B kb (τ.impLine s1) _ from hM) (O3.out.keep hC (by intro c h1 h2 hm;simp at hm;omega)) (G3.out.trans (hC.mono (by simp)))
     ·have h2':((n:Int)==2)=false:=by rw [beq_eq_false_iff_ne];omega
      have HN:=Lib.hid (show σ.outside ws=none from HOE.out.trans (if_neg (fun h=>h2 (by rw [HLN.out];exact h.2))))
      go_enter Tryz.func25,Tryz.ntmps25
      go_wp2_with (go_at_call 27;refine stop_here ?_)
      refine go_on ?_
      refine(object_any ρ B kb σ V _ H.out (by omega)).mono ?_
      rintro e w1 ⟨rfl,ρ1,pv1,hm,hg⟩
      have M1:=Lib.hid (show MkC w1 ρ1 B kb τ { V with pv:=pv1 } by rw [HT.out];exact hm)
      have G1:=Lib.hid (GR.out.trans (hg.mono (by simp)))
      have B1:=Lib.hid (hg.below H.out.low hB (by decide))
      have W1:=Lib.hid (HW.out.chg hg (by decide))
      have O1:=Lib.hid (show OpenC w1 ρ1 B V.mv τ.m by rw [HTM.out];exact HO.out.keep hg (by intro c h1 h2 hm;simp at hm;omega))
      have c0:=(hg.cell0 (by decide) hb HUB.out off).trans w0
      have d10:=M1.out.box.cell 10 rfl
      have zd10:=M1.out.box.frozen 10
      clear hm hg w0 c10
      go_wp2_with (go_at_call 26;refine stop_here ?_)
      refine go_on ?_
      refine(must_no kb _ τ.line _ M1.out.box rfl).mono ?_
      rintro e wz ⟨rfl,rfl⟩
      go_wp2_with fail
      exact(show _∧_ from⟨rfl,(HTL.out▸lpost_none HN.out B1.out)⟩)
    ·have hp3': ¬(τ.part:Int)≤3:=by omega
     have HN:=Lib.hid (show σ.outside ws=none from HOE.out.trans (if_neg (fun h=>hp3 h.1)))
     go_enter Tryz.func25,Tryz.ntmps25
     go_wp2_with (go_at_call 27;refine stop_here ?_)
     refine go_on ?_
     refine(object_any ρ B kb σ V _ H.out (by omega)).mono ?_
     rintro e w1 ⟨rfl,ρ1,pv1,hm,hg⟩
     have M1:=Lib.hid (show MkC w1 ρ1 B kb τ { V with pv:=pv1 } by rw [HT.out];exact hm)
     have G1:=Lib.hid (GR.out.trans (hg.mono (by simp)))
     have B1:=Lib.hid (hg.below H.out.low hB (by decide))
     have W1:=Lib.hid (HW.out.chg hg (by decide))
     have O1:=Lib.hid (show OpenC w1 ρ1 B V.mv τ.m by rw [HTM.out];exact HO.out.keep hg (by intro c h1 h2 hm;simp at hm;omega))
     have c0:=(hg.cell0 (by decide) hb HUB.out off).trans w0
     have d10:=M1.out.box.cell 10 rfl
     have zd10:=M1.out.box.frozen 10
     clear hm hg w0 c10
     go_wp2_with (go_at_call 26;refine stop_here ?_)
     refine go_on ?_
     refine(must_no kb _ τ.line _ M1.out.box rfl).mono ?_
     rintro e wz ⟨rfl,rfl⟩
     go_wp2_with fail
     exact(show _∧_ from⟨rfl,(HTL.out▸lpost_none HN.out B1.out)⟩)
   ·have hi':(s0.toList== [105,109,112,108,101,109,101,110,116,115])=false:=by simpa using hi
    have HOE:=Lib.hid (HOE.out.trans (if_neg (by rw [HI.out];exact hi)))
    clear hi
    by_cases hf:(s0.toList== [102,105,101,108,100])=true
    ·have HOE:=Lib.hid (HOE.out.trans (if_pos (by rw [HI.out];exact hf)))
     by_cases hp4:τ.part≤4
     ·have hp4':(τ.part:Int)≤4:=by omega
      by_cases h2:2<n
      ·have h2':(2:Int) < (n:Int):=by omega
       have HFD:=Lib.hid (HOE.out.trans (if_pos ⟨hp4,by rw [←HLN.out];exact h2⟩))
       go_enter Tryz.func25,Tryz.ntmps25
       go_wp2_with (go_at_call 27;refine stop_here ?_)
       refine go_on ?_
       refine(object_any ρ B kb σ V _ H.out (by omega)).mono ?_
       rintro e w1 ⟨rfl,ρ1,pv1,hm,hg⟩
       have M1:=Lib.hid (show MkC w1 ρ1 B kb τ { V with pv:=pv1 } by rw [HT.out];exact hm)
       have G1:=Lib.hid (GR.out.trans (hg.mono (by simp)))
       have B1:=Lib.hid (hg.below H.out.low hB (by decide))
       have W1:=Lib.hid (HW.out.chg hg (by decide))
       have O1:=Lib.hid (show OpenC w1 ρ1 B V.mv τ.m by rw [HTM.out];exact HO.out.keep hg (by intro c h1 h2 hm;simp at hm;omega))
       have c0:=(hg.cell0 (by decide) hb HUB.out off).trans w0
       have d10:=M1.out.box.cell 10 rfl
       have zd10:=M1.out.box.frozen 10
       clear hm hg w0 c10
       go_wp2_with (go_at_call 26;refine stop_here ?_)
       refine go_on ?_
       refine(must_yes kb _ τ.line _ M1.out.box rfl).mono ?_
       rintro e wz ⟨rfl,rfl⟩
       have M2:=Lib.hid (M1.out.setc 10 (.int .i64 4) (σ':={ τ with part:=4 }) (V':={ V with pv:=pv1 }) rfl rfl rfl rfl rfl ⟨rfl,rfl,rfl,rfl,rfl⟩)
       have B2:=Lib.hid (B1.out.trans (M2.out.2.below M1.out.low M1.out.hB (by decide)))
       have G2:=Lib.hid (G1.out.trans (M2.out.2.mono (by simp)))
       have W2:=Lib.hid (W1.out.chg M2.out.2 (by decide))
       have O2:=Lib.hid (O1.out.keep M2.out.2 (by intro c h1 h2 hm;simp at hm;omega))
       go_wp2_with (go_at_call 59;refine stop_here ?_)
       refine go_on ?_
       refine(afield_any ρ1 B kb { τ with part:=4 } { V with pv:=pv1 } _ n cap ws _ M2.out.1 O2.out W2.out HZ.out (by omega) (show τ.c.pool.length≤999000 by omega) (show τ.c.flds.length≤999000 by rw [HTQ.out];exact hlf)).mono ?_
       intro e w3 hq
       have HQ:=Lib.hid (LPost.weak G2.out B2.out (by simp) hq)
       have hq':(∃σ',({ τ with part:=4 }:AsK).field ws=some σ'∧e= .returned (.tuple #[]))∨(({ τ with part:=4 }:AsK).field ws=none∧e= .panicked [{ v:=stopA τ.line 60,recovered:=false }]):=by
        unfold LPost at hq
        cases hf:({ τ with part:=4 }:AsK).field ws with
        |none=>rw [hf] at hq;exact .inr ⟨rfl,hq.1⟩
        |some σ'=>rw [hf] at hq;exact .inl ⟨σ',rfl,hq.1⟩
       clear hq
       rcases hq' with⟨σ',hf,rfl⟩ | ⟨hf,rfl⟩
       ·go_wp2_with fail
        refine⟨rfl, .tuple #[],by simp [results,Tryz.results25], ?_⟩
        rw [HFD.out, ←HTL.out]
        exact HQ.out
       ·go_wp2_with fail
        refine(show _∧_ from⟨rfl, ?_⟩)
        rw [HFD.out, ←HTL.out]
        exact HQ.out
      ·have h2':decide ((2:Int) < (n:Int))=false:=by rw [decide_eq_false_iff_not];omega
       have HN:=Lib.hid (show σ.outside ws=none from HOE.out.trans (if_neg (fun h=>h2 (by rw [HLN.out];exact h.2))))
       go_enter Tryz.func25,Tryz.ntmps25
       go_wp2_with (go_at_call 27;refine stop_here ?_)
       refine go_on ?_
       refine(object_any ρ B kb σ V _ H.out (by omega)).mono ?_
       rintro e w1 ⟨rfl,ρ1,pv1,hm,hg⟩
       have M1:=Lib.hid (show MkC w1 ρ1 B kb τ { V with pv:=pv1 } by rw [HT.out];exact hm)
       have G1:=Lib.hid (GR.out.trans (hg.mono (by simp)))
       have B1:=Lib.hid (hg.below H.out.low hB (by decide))
       have W1:=Lib.hid (HW.out.chg hg (by decide))
       have O1:=Lib.hid (show OpenC w1 ρ1 B V.mv τ.m by rw [HTM.out];exact HO.out.keep hg (by intro c h1 h2 hm;simp at hm;omega))
       have c0:=(hg.cell0 (by decide) hb HUB.out off).trans w0
       have d10:=M1.out.box.cell 10 rfl
       have zd10:=M1.out.box.frozen 10
       clear hm hg w0 c10
       go_wp2_with (go_at_call 26;refine stop_here ?_)
       refine go_on ?_
       refine(must_no kb _ τ.line _ M1.out.box rfl).mono ?_
       rintro e wz ⟨rfl,rfl⟩
       go_wp2_with fail
       exact(show _∧_ from⟨rfl,(HTL.out▸lpost_none HN.out B1.out)⟩)
     ·have hp4': ¬(τ.part:Int)≤4:=by omega
      have HN:=Lib.hid (show σ.outside ws=none from HOE.out.trans (if_neg (fun h=>hp4 h.1)))
      go_enter Tryz.func25,Tryz.ntmps25
      go_wp2_with (go_at_call 27;refine stop_here ?_)
      refine go_on ?_
      refine(object_any ρ B kb σ V _ H.out (by omega)).mono ?_
      rintro e w1 ⟨rfl,ρ1,pv1,hm,hg⟩
      have M1:=Lib.hid (show MkC w1 ρ1 B kb τ { V with pv:=pv1 } by rw [HT.out];exact hm)
      have G1:=Lib.hid (GR.out.trans (hg.mono (by simp)))
      have B1:=Lib.hid (hg.below H.out.low hB (by decide))
      have W1:=Lib.hid (HW.out.chg hg (by decide))
      have O1:=Lib.hid (show OpenC w1 ρ1 B V.mv τ.m by rw [HTM.out];exact HO.out.keep hg (by intro c h1 h2 hm;simp at hm;omega))
      have c0:=(hg.cell0 (by decide) hb HUB.out off).trans w0
      have d10:=M1.out.box.cell 10 rfl
      have zd10:=M1.out.box.frozen 10
      clear hm hg w0 c10
      go_wp2_with (go_at_call 26;refine stop_here ?_)
      refine go_on ?_
      refine(must_no kb _ τ.line _ M1.out.box rfl).mono ?_
      rintro e wz ⟨rfl,rfl⟩
      go_wp2_with fail
      exact(show _∧_ from⟨rfl,(HTL.out▸lpost_none HN.out B1.out)⟩)
    ·have hf':(s0.toList== [102,105,101,108,100])=false:=by simpa using hf
     have HOE:=Lib.hid (HOE.out.trans (if_neg (by rw [HI.out];exact hf)))
     clear hf
     by_cases hmt:(s0.toList== [109,101,116,104,111,100])=true
     ·have HOE:=Lib.hid (HOE.out.trans (if_pos (by rw [HI.out];exact hmt)))
      by_cases h2:2<n
      ·have h2':(2:Int) < (n:Int):=by omega
       have HFD:=Lib.hid (HOE.out.trans (if_pos (by rw [←HLN.out];exact h2)))
       go_enter Tryz.func25,Tryz.ntmps25
       go_wp2_with (go_at_call 27;refine stop_here ?_)
       refine go_on ?_
       refine(object_any ρ B kb σ V _ H.out (by omega)).mono ?_
       rintro e w1 ⟨rfl,ρ1,pv1,hm,hg⟩
       have M1:=Lib.hid (show MkC w1 ρ1 B kb τ { V with pv:=pv1 } by rw [HT.out];exact hm)
       have G1:=Lib.hid (GR.out.trans (hg.mono (by simp)))
       have B1:=Lib.hid (hg.below H.out.low hB (by decide))
       have W1:=Lib.hid (HW.out.chg hg (by decide))
       have O1:=Lib.hid (show OpenC w1 ρ1 B V.mv τ.m by rw [HTM.out];exact HO.out.keep hg (by intro c h1 h2 hm;simp at hm;omega))
       have c0:=(hg.cell0 (by decide) hb HUB.out off).trans w0
       have d10:=M1.out.box.cell 10 rfl
       have zd10:=M1.out.box.frozen 10
       clear hm hg w0 c10
       go_wp2_with (go_at_call 26;refine stop_here ?_)
       refine go_on ?_
       refine(must_yes kb _ τ.line _ M1.out.box rfl).mono ?_
       rintro e wz ⟨rfl,rfl⟩
       have M2:=Lib.hid (M1.out.setc 10 (.int .i64 5) (σ':={ τ with part:=5 }) (V':={ V with pv:=pv1 }) rfl rfl rfl rfl rfl ⟨rfl,rfl,rfl,rfl,rfl⟩)
       have B2:=Lib.hid (B1.out.trans (M2.out.2.below M1.out.low M1.out.hB (by decide)))
       have G2:=Lib.hid (G1.out.trans (M2.out.2.mono (by simp)))
       have W2:=Lib.hid (W1.out.chg M2.out.2 (by decide))
       have O2:=Lib.hid (O1.out.keep M2.out.2 (by intro c h1 h2 hm;simp at hm;omega))
       go_wp2_with (go_at_call 60;refine stop_here ?_)
       refine go_on ?_
       refine(abegin_any ρ1 B kb { τ with part:=5 } { V with pv:=pv1 } _ n cap ws _ M2.out.1 O2.out W2.out HZ.out (by omega) (show τ.c.pool.length≤999000 by omega) (show τ.c.mths.length≤999000 by rw [HTM2.out];exact hlm)).mono ?_
       intro e w3 hq
       have HQ:=Lib.hid (LPost.weak G2.out B2.out (by simp) hq)
       have hq':(∃σ',({ τ with part:=5 }:AsK).begin ws=some σ'∧e= .returned (.tuple #[]))∨(({ τ with part:=5 }:AsK).begin ws=none∧e= .panicked [{ v:=stopA τ.line 60,recovered:=false }]):=by
        unfold LPost at hq
        cases hf:({ τ with part:=5 }:AsK).begin ws with
        |none=>rw [hf] at hq;exact .inr ⟨rfl,hq.1⟩
        |some σ'=>rw [hf] at hq;exact .inl ⟨σ',rfl,hq.1⟩
       clear hq
       rcases hq' with⟨σ',hf,rfl⟩ | ⟨hf,rfl⟩
       ·go_wp2_with fail
        refine⟨rfl, .tuple #[],by simp [results,Tryz.results25], ?_⟩
        rw [HFD.out, ←HTL.out]
        exact HQ.out
       ·go_wp2_with fail
        refine(show _∧_ from⟨rfl, ?_⟩)
        rw [HFD.out, ←HTL.out]
        exact HQ.out
      ·have h2':decide ((2:Int) < (n:Int))=false:=by rw [decide_eq_false_iff_not];omega
       have HN:=Lib.hid (show σ.outside ws=none from HOE.out.trans (if_neg (fun h=>h2 (by rw [HLN.out];exact h))))
       go_enter Tryz.func25,Tryz.ntmps25
       go_wp2_with (go_at_call 27;refine stop_here ?_)
       refine go_on ?_
       refine(object_any ρ B kb σ V _ H.out (by omega)).mono ?_
       rintro e w1 ⟨rfl,ρ1,pv1,hm,hg⟩
       have M1:=Lib.hid (show MkC w1 ρ1 B kb τ { V with pv:=pv1 } by rw [HT.out];exact hm)
       have G1:=Lib.hid (GR.out.trans (hg.mono (by simp)))
       have B1:=Lib.hid (hg.below H.out.low hB (by decide))
       have W1:=Lib.hid (HW.out.chg hg (by decide))
       have O1:=Lib.hid (show OpenC w1 ρ1 B V.mv τ.m by rw [HTM.out];exact HO.out.keep hg (by intro c h1 h2 hm;simp at hm;omega))
       have c0:=(hg.cell0 (by decide) hb HUB.out off).trans w0
       have d10:=M1.out.box.cell 10 rfl
       have zd10:=M1.out.box.frozen 10
       clear hm hg w0 c10
       go_wp2_with (go_at_call 26;refine stop_here ?_)
       refine go_on ?_
       refine(must_no kb _ τ.line _ M1.out.box rfl).mono ?_
       rintro e wz ⟨rfl,rfl⟩
       go_wp2_with fail
       exact(show _∧_ from⟨rfl,(HTL.out▸lpost_none HN.out B1.out)⟩)
     ·have hmt':(s0.toList== [109,101,116,104,111,100])=false:=by simpa using hmt
      have HN:=Lib.hid (show σ.outside ws=none from HOE.out.trans (if_neg (by rw [HI.out];exact hmt)))
      clear hmt
      go_enter Tryz.func25,Tryz.ntmps25
      go_wp2_with (go_at_call 27;refine stop_here ?_)
      refine go_on ?_
      refine(object_any ρ B kb σ V _ H.out (by omega)).mono ?_
      rintro e w1 ⟨rfl,ρ1,pv1,hm,hg⟩
      have M1:=Lib.hid (show MkC w1 ρ1 B kb τ { V with pv:=pv1 } by rw [HT.out];exact hm)
      have G1:=Lib.hid (GR.out.trans (hg.mono (by simp)))
      have B1:=Lib.hid (hg.below H.out.low hB (by decide))
      have W1:=Lib.hid (HW.out.chg hg (by decide))
      have O1:=Lib.hid (show OpenC w1 ρ1 B V.mv τ.m by rw [HTM.out];exact HO.out.keep hg (by intro c h1 h2 hm;simp at hm;omega))
      have c0:=(hg.cell0 (by decide) hb HUB.out off).trans w0
      have d10:=M1.out.box.cell 10 rfl
      have zd10:=M1.out.box.frozen 10
      clear hm hg w0 c10
      go_wp2_with (go_at_call 61;refine stop_here ?_)
      refine go_on ?_
      refine(awrong_any kb _ τ.line _ M1.out.box rfl).mono ?_
      rintro e wz ⟨he,rfl⟩
      obtain rfl:e= .panicked [{ v:=stopA τ.line 60,recovered:=false }]:=he
      go_wp2_with fail
      exact(show _∧_ from⟨rfl,(HTL.out▸lpost_none HN.out B1.out)⟩)
set_option maxHeartbeats 1000000
theorem MtC.setc {w:World} {ρ:Nat→Nat} {B xb:Nat} {m m':AsM} {U U':MtV} (h:MtC w ρ B xb m U) (j:Nat) (u:Value) (hc:(mtCells m U).set j u=mtCells m' U') (hl:m'.labels=m.labels) (hco:m'.mv.code=m.mv.code) (hj:m'.jumps=m.jumps) (ht:m'.traps=m.traps) (hn:m'.mv.traps= [])
  (hU:U'.cv=U.cv∧U'.lb=U.lb∧U'.jv=U.jv∧U'.tv=U.tv):MtC (w.setCell ⟨xb,j,Option.none⟩ u) ρ B xb m' U'∧Chg [8] w ρ (w.setCell ⟨xb,j,Option.none⟩ u) ρ:=by
 have hC:Chg [8] w ρ (w.setCell ⟨xb,j,Option.none⟩ u) ρ:=⟨rfl,rfl,rfl,by simp,fun g hg hr=> ⟨Below.heap_setCell _ _ _ _ (by rintro rfl;exact hr (by rw [h.xc];simp)),rfl⟩⟩
 obtain⟨v1,v2,v3,v4⟩:=hU
 refine⟨⟨?_,h.xc, ?_, ?_, ?_, ?_, ?_,hn⟩,hC⟩
 ·rw [←hc]
  exact h.box.set j u
 ·rw [v2,hl]
  exact h.lab.keep (hC.blk _ h.lab.lt (by rw [h.lc];decide)).1
 ·rw [v2]
  exact h.lc
 ·rw [v1,hco]
  exact hC.own h.code (by decide)
 ·rw [v3,hj]
  exact hC.own h.jumps (by decide)
 ·rw [v4,ht]
  exact hC.own h.traps (by decide)
theorem MtC.free {w:World} {ρ:Nat→Nat} {B xb:Nat} {m:AsM} {U:MtV} (h:MtC w ρ B xb m U) {p:Addr} (hp:ρ p.block=0) (u:Value):MtC (w.setCell p u) ρ B xb m U:=
 h.keep (cs:= [0]) ⟨rfl,rfl,rfl,by simp,fun g hg hc=> ⟨Below.heap_setCell _ _ _ _ (by rintro rfl;exact hc (by rw [hp];simp)),rfl⟩⟩ (by intro c h1 _ hm;simp at hm;omega)
theorem missing_any (p2 xb:Nat) (m:AsM) (U:MtV) (w:World) (h2:w.cell? ⟨p2,0,none⟩=some (.pointer (some ⟨xb,0,none⟩))) (h:Bx w xb (mtCells m U) 73):
  Calls Tryz.prog 125 #[.pointer (some ⟨p2,0,none⟩)] w fun e w'=>e= .panicked [{ v:=stopA m.line 60,recovered:=false }]∧w'=w:=by
 have c8:=h.cell 8 rfl
 clear h
 go_enter Tryz.func125,Tryz.ntmps125
 go_wp2
 exact⟨rfl,rfl,rfl⟩
theorem look_some (p2 p3 xb:Nat) (ρ:Nat→Nat) (B:Nat) (m:AsM) (U:MtV) (s:ByteArray) (p:Nat) (w:World) (h2:w.cell? ⟨p2,0,none⟩=some (.pointer (some ⟨xb,0,none⟩))) (h:MtC w ρ B xb m U) (hs:s.size≤maxLen) (hp:aLook m.labels s=some p):
  Calls Tryz.prog 126 #[.string s, .pointer (some ⟨p2,0,none⟩), .pointer (some ⟨p3,0,none⟩)] w fun e w'=>e= .returned (.int .i64 p)∧w'=w:=by
 have c10:=h.box.cell 10 rfl
 obtain⟨n,f,sz,_,hM,hf⟩:=h.lab
 have hfs:f s.data.toList=some (.int .i64 p):=by
  have:=hf s.data.toList
  rw [this,show(⟨s.data.toList.toArray⟩:ByteArray)=s from rfl,hp]
  rfl
 have HM:=Lib.hid hM
 clear h hM hf hp
 go_enter Tryz.func126,Tryz.ntmps126
 go_wp2_with (refine wpl_look rfl _ _ rfl Tryz.underlying9 Tryz.underlying69 (z:= .int .i64 0) (by kernel_rfl) rfl HM.out rfl hs ?_;rw [hfs])
 go_ret
 exact⟨rfl,rfl⟩
theorem look_none (p2 p3 xb:Nat) (ρ:Nat→Nat) (B:Nat) (m:AsM) (U:MtV) (s:ByteArray) (w:World) (h2:w.cell? ⟨p2,0,none⟩=some (.pointer (some ⟨xb,0,none⟩))) (h3:w.cell? ⟨p3,0,none⟩=some (.func (.func 125) #[] #[.pointer (some ⟨p2,0,none⟩)])) (h:MtC w ρ B xb m U) (hs:s.size≤maxLen) (hp:aLook m.labels s=none):
  Calls Tryz.prog 126 #[.string s, .pointer (some ⟨p2,0,none⟩), .pointer (some ⟨p3,0,none⟩)] w fun e w'=>e= .panicked [{ v:=stopA m.line 60,recovered:=false }]∧w'=w:=by
 have c10:=h.box.cell 10 rfl
 have HX:=Lib.hid h.box
 obtain⟨n,f,sz,_,hM,hf⟩:=h.lab
 have hfs:f s.data.toList=none:=by
  have:=hf s.data.toList
  rw [this,show(⟨s.data.toList.toArray⟩:ByteArray)=s from rfl,hp]
  rfl
 have HM:=Lib.hid hM
 have H2:=Lib.hid h2
 clear h hM hf hp
 go_enter Tryz.func126,Tryz.ntmps126
 go_wp2_with (first| (refine wpl_look rfl _ _ rfl Tryz.underlying9 Tryz.underlying69 (z:= .int .i64 0) (by kernel_rfl) rfl HM.out rfl hs ?_;rw [hfs]) | (go_at_call 125;refine stop_here ?_))
 refine go_on ?_
 refine(missing_any p2 xb m U _ H2.out HX.out).mono ?_
 rintro e w1 ⟨rfl,rfl⟩
 go_wp2_with fail
 exact(show _∧_ from⟨rfl,rfl,rfl⟩)
end Go.Proofs.YtlcidkiplidamaaGreatDoor
