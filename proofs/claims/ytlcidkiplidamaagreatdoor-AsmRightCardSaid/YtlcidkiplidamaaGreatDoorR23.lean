/-
  What the laws rest on, part 23: walks of the program's functions and plain laws. Conditions: none but those that each theorem names.
-/
import Derived.Test.YtlcidkiplidamaaGreatDoorR22
set_option linter.unusedSimpArgs false
set_option linter.unusedVariables false
set_option maxRecDepth 100000
set_option maxHeartbeats 4000000
namespace Go.Proofs.YtlcidkiplidamaaGreatDoor
open Go Go.RowKit Lib Go.Maps
theorem aFlags_lt: ∀(ws:List ByteArray) (a acc:Nat),a<2048→aFlags ws a=some acc→acc<2048
 | [],a,acc,h,e=>by rw [aFlags] at e;cases e;exact h
 |s::l,a,acc,h,e=>by
  rw [aFlags] at e
  split at e
  ·exact aFlags_lt l _ acc (Nat.or_lt_two_pow (n:=11) h (aFlag_lt _)) e
  ·cases e
theorem Chg.paint {cs:List Nat} {w W:World} {ρ ρ':Nat→Nat} (h:Chg cs w ρ W ρ') {g:Nat} (hg:w.heap.size≤g) (c:Nat):Chg cs w ρ W (paint ρ' g c):=
 ⟨h.os,h.tape,h.output,h.size,fun q hq hc=> ⟨(h.blk q hq hc).1,(paint_other (by omega)).trans (h.blk q hq hc).2⟩⟩
theorem chg_paint {w:World} {ρ:Nat→Nat} {g:Nat} (hg:ρ g=0) (c:Nat):Chg [0] w ρ w (paint ρ g c):=
 ⟨rfl,rfl,rfl,Nat.le_refl _,fun q hq hc=> ⟨rfl,paint_other (by rintro rfl;exact hc (by rw [hg];simp))⟩⟩
theorem MkC.paint {w:World} {ρ:Nat→Nat} {B kb g:Nat} {σ:AsK} {V:MkV} (h:MkC w ρ B kb σ V) (hg:ρ g=0) (hl:B≤g∧g<w.heap.size) (c:Nat):MkC w (paint ρ g c) B kb σ V:=
 h.keep (chg_paint hg c) (low_paint h.low (Nat.le_refl _) hl) (by intro c h1 _ hm;simp at hm;omega)
theorem info_amethod:(Tryz.prog.info? 37).map (fun i=> (i.zero,i.size,i.bytes))=some (some (.agg #[.int .i64 0, .int .i64 0, .int .i64 0, .bool false, .int .i64 0, .int .i64 0, .slice none 0 0, .slice none 0 0]),8,96):=by kernel_rfl
theorem MkC.addM {w w':World} {ρ:Nat→Nat} {B kb:Nat} {σ:AsK} {V:MkV} {x:MethV} {cv tv:Value} {g cap:Nat} {ms:List (MethV×Value×Value)} (h:MkC w ρ B kb σ V) (m1:ms.map (·.1)=σ.c.mths) (m2:OwnC w ρ B 37 8 V.tv ms.length (methCells ms) 6) (m3: ∀q∈ms,MethS w ρ q.1 q.2.1 q.2.2)
  (hos:w'.os=w.os) (htp:w'.tape=w.tape) (hou:w'.output=w.output) (hsz:w.heap.size≤w'.heap.size)
  (hkeep: ∀q,q<w.heap.size→q≠kb→V.tv.ownBlock≠some q→w'.heap[q]?=w.heap[q]?) (hbox:Bx w' kb ((mkCells σ V).set 8 (.slice (some ⟨g,0,none⟩) (ms.length+1) cap)) 67)
  (hrow:w'.ownsRow B 37 8 (.slice (some ⟨g,0,none⟩) (ms.length+1) cap) (ms.length+1) (methCells ms++x.cells cv tv)) (hx:MethS w ρ x cv tv) (hg:V.tv.ownBlock=some g∨w.heap.size≤g):
  ∃(ρ':Nat→Nat) (tv':Value),MkC w' ρ' B kb { σ with c:={ σ.c with mths:=σ.c.mths++ [x] } } { V with tv:=tv' }∧Chg [1,6] w ρ w' ρ':=by
 have hC:=chg_row (c:=6) hos htp hou hsz h.kc m2.2 hkeep hg
 have hgr:ρ g=6∨w.heap.size≤g:=hg.imp (fun e=>m2.2 g e) id
 have hkl:=h.box.lt
 have hml:=h.map.lt
 refine⟨Go.Proofs.YtlcidkiplidamaaGreatDoor.paint ρ g 6, .slice (some ⟨g,0,none⟩) (ms.length+1) cap,⟨low_paint h.low hsz (hrow.lt g rfl),Nat.le_trans h.hB hsz,hbox, ?_,h.map.keep (hC.blk _ hml (by rw [h.mc];decide)).1, ?_,hC.own h.pool (by decide),hC.own h.ifs (by decide),hC.own h.flds (by decide), ?_⟩,hC⟩
 ·rw [paint_other]
  ·exact h.kc
  ·rintro rfl
   rcases hgr with e|e
   ·rw [h.kc] at e;omega
   ·omega
 ·show Go.Proofs.YtlcidkiplidamaaGreatDoor.paint ρ g 6 V.mb=2
  rw [paint_other]
  ·exact h.mc
  ·rintro rfl
   rcases hgr with e|e
   ·rw [h.mc] at e;omega
   ·omega
 ·refine⟨ms++ [(x,cv,tv)],by simp [m1],⟨own_eq hrow (by simp) (by simp [methCells]),fun q hq=> ?_⟩,fun q hq=> ?_⟩
  ·obtain rfl:g=q:=by simpa [Value.ownBlock] using hq
   exact paint_same _ _ _
  ·have hS: ∀{size n:Nat} {cells:List Value} {v:Value},SlAt w (fun g=>ρ g=7) size n cells v→SlAt w' (fun q=>Go.Proofs.YtlcidkiplidamaaGreatDoor.paint ρ g 6 q=7) size n cells v:=fun hs=>hC.sl (by decide) hs
   rcases List.mem_append.1 hq with hq|hq
   ·exact⟨hS (m3 q hq).hcode,hS (m3 q hq).htraps,hC.soft (by decide) (m3 q hq).soft⟩
   ·obtain rfl:=List.mem_singleton.1 hq
    exact⟨hS hx.hcode,hS hx.htraps,hC.soft (by decide) hx.soft⟩
def AsK.bgA (σ:AsK) (s1 s2:ByteArray) (acc:Nat):AsK:={ ((σ.text s1).2.text s2).2 with c:={ ((σ.text s1).2.text s2).2.c with mths:=σ.c.mths++ [⟨acc,(σ.text s1).1,((σ.text s1).2.text s2).1,false,0,0, [], []⟩] } }
def AsK.bgM (σ:AsK) (s1 s2:ByteArray) (acc:Nat):AsM:=⟨⟨acc,(σ.text s1).1,((σ.text s1).2.text s2).1,true,8,(kindsV s2).1.size+4, [], []⟩,σ.line,true, [], [], []⟩
def AsK.bgO (σ:AsK) (s1 s2:ByteArray) (acc:Nat):AsK:={ (((σ.text s1).2.text s2).2.text codeS).2 with m:=some (σ.bgM s1 s2 acc) }
theorem begin_eq {σ:AsK} {ws:List ByteArray}:σ.begin ws=(aFlags (ws.drop 3) 0).map fun acc=>if acc&&&1024≠0 then σ.bgA (ws.getD 1 ⟨#[]⟩) (ws.getD 2 ⟨#[]⟩) acc else σ.bgO (ws.getD 1 ⟨#[]⟩) (ws.getD 2 ⟨#[]⟩) acc:=by
 unfold AsK.begin
 simp only
 cases aFlags (ws.drop 3) 0 with
 |none=>rfl
 |some acc=>
  simp only [Option.map_some]
  split<;>rfl
theorem sl_nil (w:World) (ok:Nat→Prop) (size:Nat):SlAt w ok size 0 [] (.slice none 0 0):=⟨none,0,rfl,by omega,by omega,by simp,fun h=>absurd h (Nat.lt_irrefl _)⟩
theorem abegin_any (ρ:Nat→Nat) (B kb:Nat) (σ:AsK) (V:MkV) (A:Option Addr) (n cap:Nat) (ws:List ByteArray) (w:World) (h:MkC w ρ B kb σ V) (ho:OpenC w ρ B V.mv σ.m) (hw:WdA w (Un ρ) A n cap ws) (hz:SmW ws) (hn:2<n) (hl:σ.c.pool.length≤999000) (hlm:σ.c.mths.length≤999000):
  Calls Tryz.prog 60 #[.pointer (some ⟨kb,0,none⟩), .slice A n cap] w (LPost [1,2,3,6] w ρ B kb σ.line (σ.begin ws)):=by
 have H:=Lib.hid h
 have HO:=Lib.hid ho
 have HW:=Lib.hid hw
 have HZ:=Lib.hid hz
 have HLN:=Lib.hid hw.len
 have hle:=hw.le
 have hmx:=hw.max
 obtain⟨b,off,hA,hb,hub,hc⟩:=hw.hat (by omega)
 subst hA
 have HUB:=Lib.hid hub
 obtain⟨s1,hs1⟩: ∃s,ws[1]?=some s:=⟨_,List.getElem?_eq_getElem (by rw [←hw.len];omega)⟩
 obtain⟨s2,hs2⟩: ∃s,ws[2]?=some s:=⟨_,List.getElem?_eq_getElem (by rw [←hw.len];omega)⟩
 have HS1:=Lib.hid (getD_of hs1)
 have HS2:=Lib.hid (getD_of hs2)
 have z1:=hz s1 (List.mem_of_getElem? hs1)
 have z2:=hz s2 (List.mem_of_getElem? hs2)
 have HW1:=Lib.hid (hc 1 s1 hs1)
 have HW2:=Lib.hid (hc 2 s2 hs2)
 have hB:=h.hB
 have hkl:=h.box.lt
 have hl1:=len_need (k:=⟨1,s1,0,0,0⟩) hl
 have hl2:=len_need (k:=⟨1,s2,0,0,0⟩) hl1.1
 have hl1':(σ.text s1).2.c.pool.length≤999001:=hl1.1
 have hl2':((σ.text s1).2.text s2).2.c.pool.length≤999002:=hl2.1
 have HFD:=Lib.hid (begin_eq (σ:=σ) (ws:=ws))
 rw [HS1.out,HS2.out] at HFD
 have HTK:=Lib.hid (show ws.take n=ws from List.take_of_length_le (by rw [←hw.len];exact Nat.le_refl _))
 have RX0:=Lib.hid (h.low.fresh (show w.heap.size≤w.heap.size+1 by omega))
 have RL0:=Lib.hid (h.low.fresh (Nat.le_refl w.heap.size))
 have c11:=h.box.cell 11 rfl
 have hmm:= @run_makeMap Tryz.prog
 obtain⟨y1,y2,y3,y4,y5,y6,y7,y8,y9,y10,y11,y12⟩:=far b w.heap.size hb
 obtain⟨k1,k2,k3,k4,k5,k6,k7,k8,k9,k10,k11,k12⟩:=far kb w.heap.size hkl
 clear hw hz h ho hc hs1 hs2 hub hl1 hl2
 rcases Nat.lt_or_ge 3 cap with h3|h3
 ·have XM00:=Lib.hid (bx_new_at (w.alloc (.map #[] 0)) [.int .i64 0, .int .i64 0, .int .i64 0, .bool false, .int .i64 0, .int .i64 0, .slice none 0 0, .slice none 0 0, .int .i64 σ.line, .bool true, .map (some w.heap.size), .slice none 0 0, .slice none 0 0] 73 (w.heap.size+1) (by simp))
  go_enter Tryz.func60,Tryz.ntmps60
  go_wp2_with (go_at_call 58;refine stop_here ?_)
  refine go_on ?_
  refine(aflags_any kb _ σ.line _ _ _ _ _ _ (H.out.below (((Below.refl _ _).alloc (Nat.le_refl _) (.map #[] 0)).alloc (by simp) (.cells #[.int .i64 0, .int .i64 0, .int .i64 0, .bool false, .int .i64 0, .int .i64 0, .slice none 0 0, .slice none 0 0, .int .i64 σ.line, .bool true, .map (some w.heap.size), .slice none 0 0, .slice none 0 0] 73))).box rfl ((HW.out.part 3 n (by omega) (by omega) _ (fun _=>rfl)).chg (((Chg.refl [1,2,3,6] w ρ).alloc _).alloc _) (by decide)) (HZ.out.part 3 n)).mono ?_
  intro e wq hq
  rw [HTK.out] at hq
  rcases fpost_cases hq with⟨hp,rfl,hbq⟩ | ⟨acc,hp,rfl,hbq⟩
  ·have HN:=Lib.hid (show σ.begin ws=none from HFD.out.trans (by rw [hp] <;>rfl))
   have BB:=Lib.hid ((((Below.refl B w).alloc hB (.map #[] 0)).alloc (by simp;omega) (.cells #[.int .i64 0, .int .i64 0, .int .i64 0, .bool false, .int .i64 0, .int .i64 0, .slice none 0 0, .slice none 0 0, .int .i64 σ.line, .bool true, .map (some w.heap.size), .slice none 0 0, .slice none 0 0] 73)).trans (hbq.mono (by simp;omega)))
   clear hp hbq hq
   go_wp2_with fail
   exact(show _∧_ from⟨rfl,lpost_none HN.out BB.out⟩)
  ·have HFD2:=Lib.hid (show σ.begin ws=some (if acc&&&1024≠0 then σ.bgA s1 s2 acc else σ.bgO s1 s2 acc) from HFD.out.trans (by rw [hp] <;>rfl))
   have hacc:=aFlags_lt _ _ _ (by omega) hp
   have q0:bits .and .i64 (acc:Int) 1024=((acc&&&1024:Nat):Int):=i64_and_nat acc 1024 (by omega) (by omega)
   have G0:=Lib.hid ((((Chg.refl [1,2,3,6] w ρ).alloc (.map #[] 0)).alloc (.cells #[.int .i64 0, .int .i64 0, .int .i64 0, .bool false, .int .i64 0, .int .i64 0, .slice none 0 0, .slice none 0 0, .int .i64 σ.line, .bool true, .map (some w.heap.size), .slice none 0 0, .slice none 0 0] 73)).trans (Chg.of_below hbq))
   have M0:=Lib.hid ((H.out.below (((Below.refl _ _).alloc (Nat.le_refl _) (.map #[] 0)).alloc (by simp) (.cells #[.int .i64 0, .int .i64 0, .int .i64 0, .bool false, .int .i64 0, .int .i64 0, .slice none 0 0, .slice none 0 0, .int .i64 σ.line, .bool true, .map (some w.heap.size), .slice none 0 0, .slice none 0 0] 73))).below hbq)
   have XM0:=Lib.hid (show Bx wq (w.heap.size+1) [.int .i64 0, .int .i64 0, .int .i64 0, .bool false, .int .i64 0, .int .i64 0, .slice none 0 0, .slice none 0 0, .int .i64 σ.line, .bool true, .map (some w.heap.size), .slice none 0 0, .slice none 0 0] 73 from(hbq.block (w.heap.size+1) (by simp)).trans XM00.out)
   have LM0:=Lib.hid (show LabM wq w.heap.size [] from(labM_new w).keep ((hbq.block w.heap.size (by simp;omega)).trans (Below.heap_alloc _ _ _ (by simp))))
   have hzq:=hbq.size
   simp only [World.size_alloc] at hzq
   clear hp hbq hq
   have x0:=XM0.out.cell 0 rfl
   have zx0:=XM0.out.frozen 0
   have c1:=(G0.out.cell0 (by decide) hb HUB.out (off+1)).trans HW1.out
   go_wp2_with (go_at_call 128;refine stop_here ?_)
   refine go_on ?_
   refine(atext_any ρ B kb σ V s1 _ (M0.out.free RX0.out _) z1 (by omega)).mono ?_
   rintro e w2 ⟨rfl,ρ1,pv1,hm,hg⟩
   have M1:=Lib.hid hm
   have G1:=Lib.hid ((G0.out.fresh (p:=⟨w.heap.size+1,0,none⟩) (by simp) _).trans (hg.mono (by simp)))
   have XM1:=Lib.hid (hg.bx (XM0.out.set 0 _) (by rw [RX0.out];decide))
   have RX1:=Lib.hid ((hg.blk (w.heap.size+1) (by simp;omega) (by rw [RX0.out];decide)).2.trans RX0.out)
   have RL1:=Lib.hid ((hg.blk w.heap.size (by simp;omega) (by rw [RL0.out];decide)).2.trans RL0.out)
   have LM1:=Lib.hid (LM0.out.keep ((hg.blk w.heap.size (by simp;omega) (by rw [RL0.out];decide)).1.trans (Below.heap_setCell _ _ _ _ (by simp))))
   have hz2:=hg.size
   simp only [World.size_setCell] at hz2
   clear hm hg c1 x0 zx0
   have x1:=XM1.out.cell 1 rfl
   have zx1:=XM1.out.frozen 1
   have c2:=(G1.out.cell0 (by decide) hb HUB.out (off+2)).trans HW2.out
   go_wp2_with (go_at_call 128;refine stop_here ?_)
   refine go_on ?_
   refine(atext_any ρ1 B kb (σ.text s1).2 { V with pv:=pv1 } s2 _ (M1.out.free RX1.out _) z2 (by omega)).mono ?_
   rintro e w3 ⟨rfl,ρ2,pv2,hm,hg⟩
   have M2:=Lib.hid hm
   have G2:=Lib.hid ((G1.out.fresh (p:=⟨w.heap.size+1,1,none⟩) (by simp) _).trans (hg.mono (by simp)))
   have XM2:=Lib.hid (hg.bx (XM1.out.set 1 _) (by rw [RX1.out];decide))
   have RX2:=Lib.hid ((hg.blk (w.heap.size+1) (by simp;omega) (by rw [RX1.out];decide)).2.trans RX1.out)
   have RL2:=Lib.hid ((hg.blk w.heap.size (by simp;omega) (by rw [RL1.out];decide)).2.trans RL1.out)
   have LM2:=Lib.hid (LM1.out.keep ((hg.blk w.heap.size (by simp;omega) (by rw [RL1.out];decide)).1.trans (Below.heap_setCell _ _ _ _ (by simp))))
   have hz3:=hg.size
   simp only [World.size_setCell] at hz3
   clear hm hg c2 x1 zx1
   have x2:=XM2.out.cell 2 rfl
   have zx2:=XM2.out.frozen 2
   have x0:=XM2.out.cell 0 rfl
   by_cases hab:acc&&&1024=0
   ·have hab':(((acc&&&1024:Nat):Int) !=0)=false:=by rw [hab];rfl
    have HFD3:=Lib.hid (show σ.begin ws=some (σ.bgO s1 s2 acc) from HFD2.out.trans (by rw [if_neg (by simpa using hab)]))
    clear hab
    have c2:=(G2.out.cell0 (by decide) hb HUB.out (off+2)).trans HW2.out
    go_wp2_with (go_at_call 128;refine stop_here ?_)
    refine go_on ?_
    refine(atext_any ρ2 B kb ((σ.text s1).2.text s2).2 { V with pv:=pv2 } codeS _ (M2.out.free RX2.out _) (by decide) (by omega)).mono ?_
    rintro e w4 ⟨rfl,ρ3,pv3,hm,hg⟩
    have M3:=Lib.hid hm
    have G3:=Lib.hid ((G2.out.fresh (p:=⟨w.heap.size+1,2,none⟩) (by simp) _).trans (hg.mono (by simp)))
    have XM3:=Lib.hid (hg.bx (XM2.out.set 2 _) (by rw [RX2.out];decide))
    have RX3:=Lib.hid ((hg.blk (w.heap.size+1) (by simp;omega) (by rw [RX2.out];decide)).2.trans RX2.out)
    have RL3:=Lib.hid ((hg.blk w.heap.size (by simp;omega) (by rw [RL2.out];decide)).2.trans RL2.out)
    have LM3:=Lib.hid (LM2.out.keep ((hg.blk w.heap.size (by simp;omega) (by rw [RL2.out];decide)).1.trans (Below.heap_setCell _ _ _ _ (by simp))))
    have hz4:=hg.size
    simp only [World.size_setCell] at hz4
    clear hm hg x0 x2 zx2 c2
    have c2:=(G3.out.cell0 (by decide) hb HUB.out (off+2)).trans HW2.out
    have hs2:s2.size≤9223372036854775807:=by omega
    go_wp2_with (go_at_call 99;refine stop_here ?_)
    refine go_on ?_
    refine(kinds_any s2 _ hs2).mono ?_
    rintro e w5 ⟨rfl,hb5⟩
    have M4:=Lib.hid (M3.out.below hb5)
    have G4:=Lib.hid (G3.out.trans (Chg.of_below hb5))
    have XM4:=Lib.hid (XM3.out.below hb5 XM3.out.lt)
    have LM4:=Lib.hid (LM3.out.keep (hb5.block w.heap.size (by omega)))
    have hz5:=hb5.size
    clear hb5 c2
    have x3:=XM4.out.cell 3 rfl
    have zx3:=XM4.out.frozen 3
    have x4:=XM4.out.cell 4 rfl
    have zx4:=XM4.out.frozen 4
    have x5:=XM4.out.cell 5 rfl
    have zx5:=XM4.out.frozen 5
    have d12:=M4.out.box.cell 12 rfl
    have zd12:=M4.out.box.frozen 12
    have hks:=kinds_len s2
    go_wp2_with fail
    have M5:=Lib.hid (((M4.out.free (p:=⟨w.heap.size+1,3,none⟩) RX3.out (.bool true)).free (p:=⟨w.heap.size+1,4,none⟩) RX3.out (.int .i64 8)).free (p:=⟨w.heap.size+1,5,none⟩) RX3.out (.int .i64 ((kindsV s2).1.size+4)))
    have M6:=Lib.hid (M5.out.setc 12 (.pointer (some ⟨w.heap.size+1,0,none⟩)) (σ':=σ.bgO s1 s2 acc) (V':={ V with pv:=pv3,mv:= .pointer (some ⟨w.heap.size+1,0,none⟩) }) rfl rfl rfl rfl rfl ⟨rfl,rfl,rfl,rfl,rfl⟩)
    have XM6:=Lib.hid ((((XM4.out.set 3 (.bool true)).set 4 (.int .i64 8)).set 5 (.int .i64 ((kindsV s2).1.size+4))).set_other ⟨kb,12,none⟩ (.pointer (some ⟨w.heap.size+1,0,none⟩)) (by simp;omega))
    have M7:=Lib.hid ((M6.out.1.paint RX3.out (by simp;omega) 8).paint (g:=w.heap.size) (by rw [paint_other (by omega)];exact RL3.out) (by simp;omega) 9)
    have hkb3:ρ3 kb=1:=M4.out.kc
    refine⟨rfl, .tuple #[],by simp [results,Tryz.results60], ?_⟩
    refine lpost_some HFD3.out rfl M7.out ⟨w.heap.size+1,⟨.slice none 0 0,w.heap.size, .slice none 0 0, .slice none 0 0⟩,rfl,⟨XM6.out, ?_, ?_, ?_,ownC_nil _ _ _ _ _ _,ownC_nil _ _ _ _ _ _,ownC_nil _ _ _ _ _ _,rfl⟩⟩ ?_
    ·rw [paint_other (by omega)]
     exact paint_same _ _ _
    ·exact LM4.out.keep ((Below.heap_setCell _ _ _ _ (by simp;omega)).trans ((Below.heap_setCell _ _ _ _ (by simp)).trans ((Below.heap_setCell _ _ _ _ (by simp)).trans (Below.heap_setCell _ _ _ _ (by simp)))))
    ·exact paint_same _ _ _
    ·exact((((((G4.out.fresh (p:=⟨w.heap.size+1,3,none⟩) (by simp) (.bool true)).fresh (p:=⟨w.heap.size+1,4,none⟩) (by simp) (.int .i64 8)).fresh (p:=⟨w.heap.size+1,5,none⟩) (by simp) (.int .i64 ((kindsV s2).1.size+4))).trans (M6.out.2.mono (by simp)))).paint (by omega) 8).paint (Nat.le_refl _) 9
   ·have hab':(((acc&&&1024:Nat):Int) !=0)=true:=by
     rw [bne_iff_ne]
     omega
    have HFD3:=Lib.hid (show σ.begin ws=some (σ.bgA s1 s2 acc) from HFD2.out.trans (by rw [if_pos hab]))
    clear hab
    go_wp2_with fail
    obtain⟨w4,hw4⟩: ∃W,W=w3.setCell ⟨w.heap.size+1,2,none⟩ (.int .i64 ((σ.text s1).2.text s2).1):=⟨_,rfl⟩
    rw [←hw4]
    have M3:=Lib.hid (show MkC w4 ρ2 B kb ((σ.text s1).2.text s2).2 { V with pv:=pv2 } by rw [hw4];exact M2.out.free RX2.out _)
    have G3:=Lib.hid (show Chg [1,2,3,6] w ρ w4 ρ2 by rw [hw4];exact G2.out.fresh (by simp) _)
    have XM3:=Lib.hid (show Bx w4 (w.heap.size+1) ((([.int .i64 0, .int .i64 0, .int .i64 0, .bool false, .int .i64 0, .int .i64 0, .slice none 0 0, .slice none 0 0, .int .i64 σ.line, .bool true, .map (some w.heap.size), .slice none 0 0, .slice none 0 0].set 0 (Value.int .i64 acc)).set 1 (.int .i64 (σ.text s1).1)).set 2 (.int .i64 ((σ.text s1).2.text s2).1)) 73 by rw [hw4];exact XM2.out.set 2 _)
    have hz4:w3.heap.size≤w4.heap.size:=by rw [hw4];simp
    clear hw4 x0 x2 zx2
    have x0:=XM3.out.cell 0 rfl
    have x1:=XM3.out.cell 1 rfl
    have x2:=XM3.out.cell 2 rfl
    have x3:=XM3.out.cell 3 rfl
    have x4:=XM3.out.cell 4 rfl
    have x5:=XM3.out.cell 5 rfl
    have x6:=XM3.out.cell 6 rfl
    have x7:=XM3.out.cell 7 rfl
    have c8:=M3.out.box.cell 8 rfl
    have z8:=M3.out.box.frozen 8
    have hkw:=M3.out.box.lt
    have hBw:=M3.out.hB
    obtain⟨ms,hm1,hm2,hm3⟩:=M3.out.mths
    have HM1:=Lib.hid hm1
    have HM2:=Lib.hid hm2
    have HM3:=Lib.hid hm3
    have hlms:ms.length≤999000:=by
     have h1:=congrArg List.length hm1
     rw [List.length_map] at h1
     have h2:ms.length=σ.c.mths.length:=h1
     omega
    clear hm1 hm2 hm3
    obtain⟨v1,v2,v3,v4,v5,v6,v7,v8,v9,v10,v11,v12⟩:=far kb w4.heap.size hkw
    obtain⟨t1,t2,t3,t4,t5,t6,t7,t8,t9,t10,t11,t12⟩:=far (w.heap.size+1) w4.heap.size (by omega)
    have hnk:V.tv.ownBlock≠some kb:=fun e=>by have h1:=HM2.out.2 _ e;rw [M3.out.kc] at h1;omega
    go_region_law (first
     | (refine step_lies rfl (.tmp 53) (.tmp 58) 26 rfl Tryz.underlying26 info_amethod rfl (by omega) B rfl ((own_heap HM2.out.1 (fun _ _=>rfl)).alloc _) rfl rfl (cells_new_at _ _ _ _ (by first|rfl|omega| (simp<;>omega))) (by simp [Value.oneCell']) (by omega) (by simp only [maxLen];omega) (by omega) (by first|omega| (simp<;>omega)) ?_
        intro g6 cap6 W' ho hg hb hgg
        have HO6:=Lib.hid ho
        have HG6:=Lib.hid hg
        have X6:=Lib.hid (show Bx W' kb (mkCells ((σ.text s1).2.text s2).2 { V with pv:=pv2 }) 67 from(hg.block kb (by first|omega| (simp;omega)) (fun e=>hnk e.symm)).trans ((Below.heap_alloc _ _ _ (by first|omega| (simp;omega))).trans M3.out.box))
        have c6:=X6.out.cell 8 rfl
        have z6:=X6.out.frozen 8
        have HGG:=Lib.hid hgg
        clear ho hg hb hgg))
    all_goals
     go_wp2_with fail
     have hg6:V.tv.ownBlock=some g6∨w4.heap.size≤g6:=by
      rcases HGG.out with e|e
      ·exact .inl e
      ·right
       first|omega| (simp at e;omega)
     have hgk:g6≠kb:=by
      rintro rfl
      rcases hg6 with e|e
      ·exact hnk e
      ·omega
     have hz6':w4.heap.size+1≤W'.heap.size:=Nat.le_trans (Nat.le_of_eq (World.size_alloc w4 _).symm) HG6.out.size
     obtain⟨ρ',tv',hM,hC⟩:=M3.out.addM (x:=⟨acc,(σ.text s1).1,((σ.text s1).2.text s2).1,false,0,0, [], []⟩) (cv:= .slice none 0 0) (tv:= .slice none 0 0) HM1.out HM2.out HM3.out (w':=W'.setCell ⟨kb,8,none⟩ (.slice (some ⟨g6,0,none⟩) (ms.length+1) cap6)) (g:=g6) (cap:=cap6) HG6.out.os HG6.out.tape HG6.out.output (by first|omega| (simp;omega))
      (fun q hq h1 h2=> (Below.heap_setCell _ _ _ _ h1).trans ((HG6.out.block q (by first|omega| (simp;omega)) (fun e=>h2 e.symm)).trans (Below.heap_alloc _ _ _ (by first|omega| (simp;omega)))))
      (X6.out.set 8 _) (own_set HO6.out hgk _) ⟨sl_nil _ _ _,sl_nil _ _ _, .inl rfl⟩ hg6
     refine⟨rfl, .tuple #[],by simp [results,Tryz.results60], ?_⟩
     exact lpost_some (V':={ V with pv:=pv2,tv:=tv' }) HFD3.out rfl (show MkC _ ρ' B kb (σ.bgA s1 s2 acc) _ from hM) (HO.out.keep (G3.out.trans (hC.mono (by simp))) (by intro c h1 h2 hm;simp at hm;omega)) (G3.out.trans (hC.mono (by simp)))
 ·obtain rfl:cap=3:=by omega
  obtain rfl:n=3:=by omega
  have XM00:=Lib.hid (bx_new_at (w.alloc (.map #[] 0)) [.int .i64 0, .int .i64 0, .int .i64 0, .bool false, .int .i64 0, .int .i64 0, .slice none 0 0, .slice none 0 0, .int .i64 σ.line, .bool true, .map (some w.heap.size), .slice none 0 0, .slice none 0 0] 73 (w.heap.size+1) (by simp))
  go_enter Tryz.func60,Tryz.ntmps60
  go_wp2_with (go_at_call 58;refine stop_here ?_)
  refine go_on ?_
  refine(aflags_any kb _ σ.line _ _ _ _ _ _ (H.out.below (((Below.refl _ _).alloc (Nat.le_refl _) (.map #[] 0)).alloc (by simp) (.cells #[.int .i64 0, .int .i64 0, .int .i64 0, .bool false, .int .i64 0, .int .i64 0, .slice none 0 0, .slice none 0 0, .int .i64 σ.line, .bool true, .map (some w.heap.size), .slice none 0 0, .slice none 0 0] 73))).box rfl ((HW.out.part 3 3 (by omega) (by omega) _ (fun h=>absurd h (by omega))).chg (((Chg.refl [1,2,3,6] w ρ).alloc _).alloc _) (by decide)) (HZ.out.part 3 3)).mono ?_
  intro e wq hq
  rw [HTK.out] at hq
  rcases fpost_cases hq with⟨hp,rfl,hbq⟩ | ⟨acc,hp,rfl,hbq⟩
  ·have HN:=Lib.hid (show σ.begin ws=none from HFD.out.trans (by rw [hp] <;>rfl))
   have BB:=Lib.hid ((((Below.refl B w).alloc hB (.map #[] 0)).alloc (by simp;omega) (.cells #[.int .i64 0, .int .i64 0, .int .i64 0, .bool false, .int .i64 0, .int .i64 0, .slice none 0 0, .slice none 0 0, .int .i64 σ.line, .bool true, .map (some w.heap.size), .slice none 0 0, .slice none 0 0] 73)).trans (hbq.mono (by simp;omega)))
   clear hp hbq hq
   go_wp2_with fail
   exact(show _∧_ from⟨rfl,lpost_none HN.out BB.out⟩)
  ·have HFD2:=Lib.hid (show σ.begin ws=some (if acc&&&1024≠0 then σ.bgA s1 s2 acc else σ.bgO s1 s2 acc) from HFD.out.trans (by rw [hp] <;>rfl))
   have hacc:=aFlags_lt _ _ _ (by omega) hp
   have q0:bits .and .i64 (acc:Int) 1024=((acc&&&1024:Nat):Int):=i64_and_nat acc 1024 (by omega) (by omega)
   have G0:=Lib.hid ((((Chg.refl [1,2,3,6] w ρ).alloc (.map #[] 0)).alloc (.cells #[.int .i64 0, .int .i64 0, .int .i64 0, .bool false, .int .i64 0, .int .i64 0, .slice none 0 0, .slice none 0 0, .int .i64 σ.line, .bool true, .map (some w.heap.size), .slice none 0 0, .slice none 0 0] 73)).trans (Chg.of_below hbq))
   have M0:=Lib.hid ((H.out.below (((Below.refl _ _).alloc (Nat.le_refl _) (.map #[] 0)).alloc (by simp) (.cells #[.int .i64 0, .int .i64 0, .int .i64 0, .bool false, .int .i64 0, .int .i64 0, .slice none 0 0, .slice none 0 0, .int .i64 σ.line, .bool true, .map (some w.heap.size), .slice none 0 0, .slice none 0 0] 73))).below hbq)
   have XM0:=Lib.hid (show Bx wq (w.heap.size+1) [.int .i64 0, .int .i64 0, .int .i64 0, .bool false, .int .i64 0, .int .i64 0, .slice none 0 0, .slice none 0 0, .int .i64 σ.line, .bool true, .map (some w.heap.size), .slice none 0 0, .slice none 0 0] 73 from(hbq.block (w.heap.size+1) (by simp)).trans XM00.out)
   have LM0:=Lib.hid (show LabM wq w.heap.size [] from(labM_new w).keep ((hbq.block w.heap.size (by simp;omega)).trans (Below.heap_alloc _ _ _ (by simp))))
   have hzq:=hbq.size
   simp only [World.size_alloc] at hzq
   clear hp hbq hq
   have x0:=XM0.out.cell 0 rfl
   have zx0:=XM0.out.frozen 0
   have c1:=(G0.out.cell0 (by decide) hb HUB.out (off+1)).trans HW1.out
   go_wp2_with (go_at_call 128;refine stop_here ?_)
   refine go_on ?_
   refine(atext_any ρ B kb σ V s1 _ (M0.out.free RX0.out _) z1 (by omega)).mono ?_
   rintro e w2 ⟨rfl,ρ1,pv1,hm,hg⟩
   have M1:=Lib.hid hm
   have G1:=Lib.hid ((G0.out.fresh (p:=⟨w.heap.size+1,0,none⟩) (by simp) _).trans (hg.mono (by simp)))
   have XM1:=Lib.hid (hg.bx (XM0.out.set 0 _) (by rw [RX0.out];decide))
   have RX1:=Lib.hid ((hg.blk (w.heap.size+1) (by simp;omega) (by rw [RX0.out];decide)).2.trans RX0.out)
   have RL1:=Lib.hid ((hg.blk w.heap.size (by simp;omega) (by rw [RL0.out];decide)).2.trans RL0.out)
   have LM1:=Lib.hid (LM0.out.keep ((hg.blk w.heap.size (by simp;omega) (by rw [RL0.out];decide)).1.trans (Below.heap_setCell _ _ _ _ (by simp))))
   have hz2:=hg.size
   simp only [World.size_setCell] at hz2
   clear hm hg c1 x0 zx0
   have x1:=XM1.out.cell 1 rfl
   have zx1:=XM1.out.frozen 1
   have c2:=(G1.out.cell0 (by decide) hb HUB.out (off+2)).trans HW2.out
   go_wp2_with (go_at_call 128;refine stop_here ?_)
   refine go_on ?_
   refine(atext_any ρ1 B kb (σ.text s1).2 { V with pv:=pv1 } s2 _ (M1.out.free RX1.out _) z2 (by omega)).mono ?_
   rintro e w3 ⟨rfl,ρ2,pv2,hm,hg⟩
   have M2:=Lib.hid hm
   have G2:=Lib.hid ((G1.out.fresh (p:=⟨w.heap.size+1,1,none⟩) (by simp) _).trans (hg.mono (by simp)))
   have XM2:=Lib.hid (hg.bx (XM1.out.set 1 _) (by rw [RX1.out];decide))
   have RX2:=Lib.hid ((hg.blk (w.heap.size+1) (by simp;omega) (by rw [RX1.out];decide)).2.trans RX1.out)
   have RL2:=Lib.hid ((hg.blk w.heap.size (by simp;omega) (by rw [RL1.out];decide)).2.trans RL1.out)
   have LM2:=Lib.hid (LM1.out.keep ((hg.blk w.heap.size (by simp;omega) (by rw [RL1.out];decide)).1.trans (Below.heap_setCell _ _ _ _ (by simp))))
   have hz3:=hg.size
   simp only [World.size_setCell] at hz3
   clear hm hg c2 x1 zx1
   have x2:=XM2.out.cell 2 rfl
   have zx2:=XM2.out.frozen 2
   have x0:=XM2.out.cell 0 rfl
   by_cases hab:acc&&&1024=0
   ·have hab':(((acc&&&1024:Nat):Int) !=0)=false:=by rw [hab];rfl
    have HFD3:=Lib.hid (show σ.begin ws=some (σ.bgO s1 s2 acc) from HFD2.out.trans (by rw [if_neg (by simpa using hab)]))
    clear hab
    have c2:=(G2.out.cell0 (by decide) hb HUB.out (off+2)).trans HW2.out
    go_wp2_with (go_at_call 128;refine stop_here ?_)
    refine go_on ?_
    refine(atext_any ρ2 B kb ((σ.text s1).2.text s2).2 { V with pv:=pv2 } codeS _ (M2.out.free RX2.out _) (by decide) (by omega)).mono ?_
    rintro e w4 ⟨rfl,ρ3,pv3,hm,hg⟩
    have M3:=Lib.hid hm
    have G3:=Lib.hid ((G2.out.fresh (p:=⟨w.heap.size+1,2,none⟩) (by simp) _).trans (hg.mono (by simp)))
    have XM3:=Lib.hid (hg.bx (XM2.out.set 2 _) (by rw [RX2.out];decide))
    have RX3:=Lib.hid ((hg.blk (w.heap.size+1) (by simp;omega) (by rw [RX2.out];decide)).2.trans RX2.out)
    have RL3:=Lib.hid ((hg.blk w.heap.size (by simp;omega) (by rw [RL2.out];decide)).2.trans RL2.out)
    have LM3:=Lib.hid (LM2.out.keep ((hg.blk w.heap.size (by simp;omega) (by rw [RL2.out];decide)).1.trans (Below.heap_setCell _ _ _ _ (by simp))))
    have hz4:=hg.size
    simp only [World.size_setCell] at hz4
    clear hm hg x0 x2 zx2 c2
    have c2:=(G3.out.cell0 (by decide) hb HUB.out (off+2)).trans HW2.out
    have hs2:s2.size≤9223372036854775807:=by omega
    go_wp2_with (go_at_call 99;refine stop_here ?_)
    refine go_on ?_
    refine(kinds_any s2 _ hs2).mono ?_
    rintro e w5 ⟨rfl,hb5⟩
    have M4:=Lib.hid (M3.out.below hb5)
    have G4:=Lib.hid (G3.out.trans (Chg.of_below hb5))
    have XM4:=Lib.hid (XM3.out.below hb5 XM3.out.lt)
    have LM4:=Lib.hid (LM3.out.keep (hb5.block w.heap.size (by omega)))
    have hz5:=hb5.size
    clear hb5 c2
    have x3:=XM4.out.cell 3 rfl
    have zx3:=XM4.out.frozen 3
    have x4:=XM4.out.cell 4 rfl
    have zx4:=XM4.out.frozen 4
    have x5:=XM4.out.cell 5 rfl
    have zx5:=XM4.out.frozen 5
    have d12:=M4.out.box.cell 12 rfl
    have zd12:=M4.out.box.frozen 12
    have hks:=kinds_len s2
    go_wp2_with fail
    have M5:=Lib.hid (((M4.out.free (p:=⟨w.heap.size+1,3,none⟩) RX3.out (.bool true)).free (p:=⟨w.heap.size+1,4,none⟩) RX3.out (.int .i64 8)).free (p:=⟨w.heap.size+1,5,none⟩) RX3.out (.int .i64 ((kindsV s2).1.size+4)))
    have M6:=Lib.hid (M5.out.setc 12 (.pointer (some ⟨w.heap.size+1,0,none⟩)) (σ':=σ.bgO s1 s2 acc) (V':={ V with pv:=pv3,mv:= .pointer (some ⟨w.heap.size+1,0,none⟩) }) rfl rfl rfl rfl rfl ⟨rfl,rfl,rfl,rfl,rfl⟩)
    have XM6:=Lib.hid ((((XM4.out.set 3 (.bool true)).set 4 (.int .i64 8)).set 5 (.int .i64 ((kindsV s2).1.size+4))).set_other ⟨kb,12,none⟩ (.pointer (some ⟨w.heap.size+1,0,none⟩)) (by simp;omega))
    have M7:=Lib.hid ((M6.out.1.paint RX3.out (by simp;omega) 8).paint (g:=w.heap.size) (by rw [paint_other (by omega)];exact RL3.out) (by simp;omega) 9)
    have hkb3:ρ3 kb=1:=M4.out.kc
    refine⟨rfl, .tuple #[],by simp [results,Tryz.results60], ?_⟩
    refine lpost_some HFD3.out rfl M7.out ⟨w.heap.size+1,⟨.slice none 0 0,w.heap.size, .slice none 0 0, .slice none 0 0⟩,rfl,⟨XM6.out, ?_, ?_, ?_,ownC_nil _ _ _ _ _ _,ownC_nil _ _ _ _ _ _,ownC_nil _ _ _ _ _ _,rfl⟩⟩ ?_
    ·rw [paint_other (by omega)]
     exact paint_same _ _ _
    ·exact LM4.out.keep ((Below.heap_setCell _ _ _ _ (by simp;omega)).trans ((Below.heap_setCell _ _ _ _ (by simp)).trans ((Below.heap_setCell _ _ _ _ (by simp)).trans (Below.heap_setCell _ _ _ _ (by simp)))))
    ·exact paint_same _ _ _
    ·exact((((((G4.out.fresh (p:=⟨w.heap.size+1,3,none⟩) (by simp) (.bool true)).fresh (p:=⟨w.heap.size+1,4,none⟩) (by simp) (.int .i64 8)).fresh (p:=⟨w.heap.size+1,5,none⟩) (by simp) (.int .i64 ((kindsV s2).1.size+4))).trans (M6.out.2.mono (by simp)))).paint (by omega) 8).paint (Nat.le_refl _) 9
   ·have hab':(((acc&&&1024:Nat):Int) !=0)=true:=by
     rw [bne_iff_ne]
     omega
    have HFD3:=Lib.hid (show σ.begin ws=some (σ.bgA s1 s2 acc) from HFD2.out.trans (by rw [if_pos hab]))
    clear hab
    go_wp2_with fail
    obtain⟨w4,hw4⟩: ∃W,W=w3.setCell ⟨w.heap.size+1,2,none⟩ (.int .i64 ((σ.text s1).2.text s2).1):=⟨_,rfl⟩
    rw [←hw4]
    have M3:=Lib.hid (show MkC w4 ρ2 B kb ((σ.text s1).2.text s2).2 { V with pv:=pv2 } by rw [hw4];exact M2.out.free RX2.out _)
    have G3:=Lib.hid (show Chg [1,2,3,6] w ρ w4 ρ2 by rw [hw4];exact G2.out.fresh (by simp) _)
    have XM3:=Lib.hid (show Bx w4 (w.heap.size+1) ((([.int .i64 0, .int .i64 0, .int .i64 0, .bool false, .int .i64 0, .int .i64 0, .slice none 0 0, .slice none 0 0, .int .i64 σ.line, .bool true, .map (some w.heap.size), .slice none 0 0, .slice none 0 0].set 0 (Value.int .i64 acc)).set 1 (.int .i64 (σ.text s1).1)).set 2 (.int .i64 ((σ.text s1).2.text s2).1)) 73 by rw [hw4];exact XM2.out.set 2 _)
    have hz4:w3.heap.size≤w4.heap.size:=by rw [hw4];simp
    clear hw4 x0 x2 zx2
    have x0:=XM3.out.cell 0 rfl
    have x1:=XM3.out.cell 1 rfl
    have x2:=XM3.out.cell 2 rfl
    have x3:=XM3.out.cell 3 rfl
    have x4:=XM3.out.cell 4 rfl
    have x5:=XM3.out.cell 5 rfl
    have x6:=XM3.out.cell 6 rfl
    have x7:=XM3.out.cell 7 rfl
    have c8:=M3.out.box.cell 8 rfl
    have z8:=M3.out.box.frozen 8
    have hkw:=M3.out.box.lt
    have hBw:=M3.out.hB
    obtain⟨ms,hm1,hm2,hm3⟩:=M3.out.mths
    have HM1:=Lib.hid hm1
    have HM2:=Lib.hid hm2
    have HM3:=Lib.hid hm3
    have hlms:ms.length≤999000:=by
     have h1:=congrArg List.length hm1
     rw [List.length_map] at h1
     have h2:ms.length=σ.c.mths.length:=h1
     omega
    clear hm1 hm2 hm3
    obtain⟨v1,v2,v3,v4,v5,v6,v7,v8,v9,v10,v11,v12⟩:=far kb w4.heap.size hkw
    obtain⟨t1,t2,t3,t4,t5,t6,t7,t8,t9,t10,t11,t12⟩:=far (w.heap.size+1) w4.heap.size (by omega)
    have hnk:V.tv.ownBlock≠some kb:=fun e=>by have h1:=HM2.out.2 _ e;rw [M3.out.kc] at h1;omega
    go_region_law (first
     | (refine step_lies rfl (.tmp 53) (.tmp 58) 26 rfl Tryz.underlying26 info_amethod rfl (by omega) B rfl ((own_heap HM2.out.1 (fun _ _=>rfl)).alloc _) rfl rfl (cells_new_at _ _ _ _ (by first|rfl|omega| (simp<;>omega))) (by simp [Value.oneCell']) (by omega) (by simp only [maxLen];omega) (by omega) (by first|omega| (simp<;>omega)) ?_
        intro g6 cap6 W' ho hg hb hgg
        have HO6:=Lib.hid ho
        have HG6:=Lib.hid hg
        have X6:=Lib.hid (show Bx W' kb (mkCells ((σ.text s1).2.text s2).2 { V with pv:=pv2 }) 67 from(hg.block kb (by first|omega| (simp;omega)) (fun e=>hnk e.symm)).trans ((Below.heap_alloc _ _ _ (by first|omega| (simp;omega))).trans M3.out.box))
        have c6:=X6.out.cell 8 rfl
        have z6:=X6.out.frozen 8
        have HGG:=Lib.hid hgg
        clear ho hg hb hgg))
    all_goals
     go_wp2_with fail
     have hg6:V.tv.ownBlock=some g6∨w4.heap.size≤g6:=by
      rcases HGG.out with e|e
      ·exact .inl e
      ·right
       first|omega| (simp at e;omega)
     have hgk:g6≠kb:=by
      rintro rfl
      rcases hg6 with e|e
      ·exact hnk e
      ·omega
     have hz6':w4.heap.size+1≤W'.heap.size:=Nat.le_trans (Nat.le_of_eq (World.size_alloc w4 _).symm) HG6.out.size
     obtain⟨ρ',tv',hM,hC⟩:=M3.out.addM (x:=⟨acc,(σ.text s1).1,((σ.text s1).2.text s2).1,false,0,0, [], []⟩) (cv:= .slice none 0 0) (tv:= .slice none 0 0) HM1.out HM2.out HM3.out (w':=W'.setCell ⟨kb,8,none⟩ (.slice (some ⟨g6,0,none⟩) (ms.length+1) cap6)) (g:=g6) (cap:=cap6) HG6.out.os HG6.out.tape HG6.out.output (by first|omega| (simp;omega))
      (fun q hq h1 h2=> (Below.heap_setCell _ _ _ _ h1).trans ((HG6.out.block q (by first|omega| (simp;omega)) (fun e=>h2 e.symm)).trans (Below.heap_alloc _ _ _ (by first|omega| (simp;omega)))))
      (X6.out.set 8 _) (own_set HO6.out hgk _) ⟨sl_nil _ _ _,sl_nil _ _ _, .inl rfl⟩ hg6
     refine⟨rfl, .tuple #[],by simp [results,Tryz.results60], ?_⟩
     exact lpost_some (V':={ V with pv:=pv2,tv:=tv' }) HFD3.out rfl (show MkC _ ρ' B kb (σ.bgA s1 s2 acc) _ from hM) (HO.out.keep (G3.out.trans (hC.mono (by simp))) (by intro c h1 h2 hm;simp at hm;omega)) (G3.out.trans (hC.mono (by simp)))
end Go.Proofs.YtlcidkiplidamaaGreatDoor
