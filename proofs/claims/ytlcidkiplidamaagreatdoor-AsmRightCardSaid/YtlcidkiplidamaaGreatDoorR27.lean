/-
  What the laws rest on, part 27: walks of the program's functions and plain laws. Conditions: none but those that each theorem names.
-/
import Derived.Test.YtlcidkiplidamaaGreatDoorR25
import Derived.Test.YtlcidkiplidamaaGreatDoorR18
import Derived.Deep.RegionHeld2
import Derived.RegionTactic
import Derived.Test.YtlcidkiplidamaaGreatDoorR00
import Derived.OrdersHeld
set_option linter.unusedSimpArgs false
set_option linter.unusedVariables false
set_option maxRecDepth 100000
set_option maxHeartbeats 40000000
namespace Go.Proofs.YtlcidkiplidamaaGreatDoor
open Go Go.RowKit Lib Go.Maps
def allC:List Nat:= [1,2,3,4,5,6,7,8,9,10,11,12,13]
def InstrC:Prop:= ∀(ρ:Nat→Nat) (B kb xb:Nat) (σ:AsK) (V:MkV) (m:AsM) (U:MtV) (A:Option Addr) (n cap:Nat) (ws:List ByteArray) (w:World) (N:Nat),MkC w ρ B kb σ V→V.mv= .pointer (some ⟨xb,0,none⟩)→MtC w ρ B xb m U→WdA w (Un ρ) A n cap ws→SmW ws→0<n→AsSm σ N→AsMSm m N→N≤900000→
 Calls Tryz.prog 57 #[.pointer (some ⟨kb,0,none⟩), .slice A n cap] w (LPost allC w ρ B kb σ.line (σ.instr m ws))
def EndC:Prop:= ∀(ρ:Nat→Nat) (B kb xb:Nat) (σ:AsK) (V:MkV) (m:AsM) (U:MtV) (w:World) (N:Nat),MkC w ρ B kb σ V→V.mv= .pointer (some ⟨xb,0,none⟩)→MtC w ρ B xb m U→AsSm σ N→AsMSm m N→N≤900000→
 Calls Tryz.prog 54 #[.pointer (some ⟨kb,0,none⟩)] w (LPost allC w ρ B kb m.line (σ.endM m))
def IPost (w:World) (ρ:Nat→Nat) (B kb:Nat) (p:Except Nat AsK) (e:Ending) (w':World):Prop:=
 match p with
 | .ok σ'=>LPost allC w ρ B kb 0 (some σ') e w'
 | .error n=>LPost allC w ρ B kb n none e w'
theorem ipost_err {w w':World} {ρ:Nat→Nat} {B kb n:Nat} {p:Except Nat AsK} (hp:p= .error n) (hb:Below B w w'):IPost w ρ B kb p (.panicked [{ v:=stopA n 60,recovered:=false }]) w':=by
 subst hp
 exact⟨rfl,hb⟩
theorem ipost_ok {w w':World} {ρ ρ':Nat→Nat} {B kb:Nat} {p:Except Nat AsK} {σ':AsK} {V':MkV} {e:Ending} (hp:p= .ok σ') (he:e= .returned (.tuple #[])) (h1:MkC w' ρ' B kb σ' V') (h2:OpenC w' ρ' B V'.mv σ'.m) (h3:Chg allC w ρ w' ρ'):IPost w ρ B kb p e w':=by
 subst hp
 exact⟨he,ρ',V',h1,h2,h3⟩
theorem ipost_of {w w':World} {ρ:Nat→Nat} {B kb n:Nat} {p:Except Nat AsK} {q:Option AsK} {e:Ending} (hp:p=match q with|none=> .error n|some x=> .ok x) (h:LPost allC w ρ B kb n q e w'):IPost w ρ B kb p e w':=by
 subst hp
 cases q with
 |none=>exact h
 |some x=>exact h
theorem MkC.wm {w:World} {ρ:Nat→Nat} {B kb:Nat} {σ:AsK} {V:MkV} (h:MkC w ρ B kb σ V) (m:Option AsM):MkC w ρ B kb { σ with m:=m } V:=⟨h.low,h.hB,h.box,h.kc,h.map,h.mc,h.pool,h.ifs,h.flds,h.mths⟩
theorem last_at (s:ByteArray) (h:0<s.size):s[s.size - 1]'(by omega)=s.data.toList.getLastD 0:=by
 have hl:s.data.toList.length=s.size:=Array.length_toList
 rw [List.getLastD_eq_getLast?,List.getLast?_eq_getElem?,hl,byte_list (by omega)]
 rfl
theorem labM_put {w':World} {b n sz':Nat} {f:List UInt8→Option Value} {l:List (List UInt8×Nat)} {s:List UInt8} {p:Nat} (hn:n≤l.length) (hf: ∀s:List UInt8,f s=(aLook l ⟨s.toArray⟩).map fun p:Nat=>Value.int .i64 p) (hno:aLook l ⟨s.toArray⟩=none)
  (hm:MapS w' Tryz.prog 9 b (n+1) (putF f s (.int .i64 p)) sz'):LabM w' b (l++ [(s,p)]):=
 ⟨n+1,_,sz',by simp;omega,hm,fun q=>by
  rw [look_add p hno]
  unfold putF
  split
  ·rfl
  ·exact hf q⟩
theorem MtC.addL {w w':World} {ρ:Nat→Nat} {B xb:Nat} {m:AsM} {U:MtV} {l:List (List UInt8×Nat)} (h:MtC w ρ B xb m U) (hg:w.grownBy w' (some U.lb)) (hl:LabM w' U.lb l):MtC w' ρ B xb { m with labels:=l } U∧Chg [9] w ρ w' ρ:=by
 have hC:Chg [9] w ρ w' ρ:=⟨hg.os,hg.tape,hg.output,hg.size,fun g hg' hr=> ⟨hg.block g hg' (by
  intro e
  injection e with e
  subst e
  exact hr (by rw [h.lc];simp)),rfl⟩⟩
 exact⟨⟨hC.bx h.box (by rw [h.xc];decide),h.xc,hl,h.lc,hC.own h.code (by decide),hC.own h.jumps (by decide),hC.own h.traps (by decide),h.none⟩,hC⟩
theorem info_atrap:(Tryz.prog.info? 127).map (fun i=> (i.zero,i.size,i.bytes))=some (some (.agg #[.string ⟨#[]⟩, .string ⟨#[]⟩, .string ⟨#[]⟩, .int .i64 0]),4,56):=by kernel_rfl
theorem MtC.addT {w w':World} {ρ:Nat→Nat} {B xb:Nat} {m:AsM} {U:MtV} {x:AsT} {g cap:Nat} (h:MtC w ρ B xb m U) (hlow:Low w ρ B) (hos:w'.os=w.os) (htp:w'.tape=w.tape) (hou:w'.output=w.output) (hsz:w.heap.size≤w'.heap.size)
  (hkeep: ∀q,q<w.heap.size→q≠xb→U.tv.ownBlock≠some q→w'.heap[q]?=w.heap[q]?) (hbox:Bx w' xb ((mtCells m U).set 12 (.slice (some ⟨g,0,Option.none⟩) (m.traps.length+1) cap)) 73)
  (hrow:w'.ownsRow B 127 4 (.slice (some ⟨g,0,Option.none⟩) (m.traps.length+1) cap) (m.traps.length+1) (m.traps.flatMap AsT.cells++x.cells)) (hg:U.tv.ownBlock=some g∨w.heap.size≤g):
  ∃(ρ':Nat→Nat) (tv':Value),MtC w' ρ' B xb { m with traps:=m.traps++ [x] } { U with tv:=tv' }∧Chg [8,12] w ρ w' ρ'∧Low w' ρ' B:=by
 have hC:Chg [8,12] w ρ w' (paint ρ g 12):=⟨hos,htp,hou,hsz,fun q hq hr=>by
  refine⟨hkeep q hq (by rintro rfl;exact hr (by rw [h.xc];simp)) (fun e=>hr (by rw [h.traps.2 q e];simp)),paint_other ?_⟩
  rintro rfl
  rcases hg with e|e
  ·exact hr (by rw [h.traps.2 _ e];simp)
  ·omega⟩
 have hgr:ρ g=12∨w.heap.size≤g:=hg.imp (fun e=>h.traps.2 g e) id
 have hxl:=h.box.lt
 have hll:=h.lab.lt
 refine⟨paint ρ g 12, .slice (some ⟨g,0,Option.none⟩) (m.traps.length+1) cap,⟨hbox, ?_,h.lab.keep (hC.blk _ hll (by rw [h.lc];decide)).1, ?_,hC.own h.code (by decide),hC.own h.jumps (by decide),⟨own_eq hrow (by simp) (by simp),fun q hq=> ?_⟩,h.none⟩,hC,low_paint hlow hsz (hrow.lt g rfl)⟩
 ·rw [paint_other]
  ·exact h.xc
  ·rintro rfl
   rcases hgr with e|e
   ·rw [h.xc] at e;omega
   ·omega
 ·show paint ρ g 12 U.lb=9
  rw [paint_other]
  ·exact h.lc
  ·rintro rfl
   rcases hgr with e|e
   ·rw [h.lc] at e;omega
   ·omega
 ·obtain rfl:g=q:=by simpa [Value.ownBlock] using hq
  exact paint_same _ _ _
def AsM.ff (m:AsM):AsM:={ m with first:=false }
theorem lpost_cases {cs:List Nat} {w w':World} {ρ:Nat→Nat} {B kb line:Nat} {p:Option AsK} {e:Ending} (h:LPost cs w ρ B kb line p e w'):(∃σ',p=some σ'∧e= .returned (.tuple #[]))∨(p=none∧e= .panicked [{ v:=stopA line 60,recovered:=false }]):=by
 unfold LPost at h
 cases p with
 |none=>exact .inr ⟨rfl,h.1⟩
 |some σ'=>exact .inl ⟨σ',rfl,h.1⟩
theorem inside_eq (σ:AsK) (m:AsM) (ws:List ByteArray) (s0:ByteArray) (h0:ws[0]?=some s0):σ.inside m ws=
  if m.first=true∧s0.data.toList= [108,105,109,105,116,115] then(if ws.length=3 then(match((aDigits (ws.getD 1 ⟨#[]⟩).data.toList 0 255).bind fun a=> (aDigits (ws.getD 2 ⟨#[]⟩).data.toList 0 255).map fun b=> { σ with m:=some { m.ff with mv:={ m.mv with stack:=a,locals:=b } } }:Option AsK) with|none=> .error σ.line|some x=> .ok x) else .error σ.line)
  else if ws.length=1∧s0.data.toList= [101,110,100] then(match σ.endM m.ff with|none=> .error m.line|some x=> .ok x)
  else if ws.length=1∧s0.data.toList.getLastD 0=58 then
   (if s0.data.toList.dropLast≠ []∧s0.data.toList.dropLast.length≤255∧(58:UInt8)∉s0.data.toList.dropLast∧aLook m.labels ⟨s0.data.toList.dropLast.toArray⟩=none then .ok { σ with m:=some { m.ff with labels:=m.labels++ [(s0.data.toList.dropLast,m.mv.code.length)] } } else .error σ.line)
  else if s0.data.toList= [116,114,97,112] then
   (if ws.length=4 then .ok { σ with m:=some { m.ff with traps:=m.traps++ [⟨ws.getD 1 ⟨#[]⟩,ws.getD 2 ⟨#[]⟩,ws.getD 3 ⟨#[]⟩,0⟩] } }
    else if ws.length=5 then .ok { (σ.cls (ws.getD 4 ⟨#[]⟩)).2 with m:=some { m.ff with traps:=m.traps++ [⟨ws.getD 1 ⟨#[]⟩,ws.getD 2 ⟨#[]⟩,ws.getD 3 ⟨#[]⟩,(σ.cls (ws.getD 4 ⟨#[]⟩)).1⟩] } }
    else .error σ.line)
  else(match σ.instr m.ff ws with|none=> .error σ.line|some x=> .ok x):=by
 cases ws with
 |nil=>cases h0
 |cons a l=>
  cases h0
  rfl
theorem inside_any (HIN:InstrC) (HEN:EndC) (ρ:Nat→Nat) (B kb xb:Nat) (σ:AsK) (V:MkV) (m:AsM) (U:MtV) (A:Option Addr) (n cap:Nat) (ws:List ByteArray) (w:World) (N:Nat) (h:MkC w ρ B kb σ V) (hV:V.mv= .pointer (some ⟨xb,0,none⟩)) (hm:MtC w ρ B xb m U) (hw:WdA w (Un ρ) A n cap ws) (hz:SmW ws) (hn:0<n) (hne: ∀s∈ws,0<s.size) (hS:AsSm σ N) (hMS:AsMSm m N) (hN:N≤900000):
  Calls Tryz.prog 24 #[.pointer (some ⟨kb,0,none⟩), .slice A n cap] w (IPost w ρ B kb (σ.inside m ws)):=by
 have H:=Lib.hid h
 have HV:=Lib.hid hV
 have HW:=Lib.hid hw
 have HZ:=Lib.hid hz
 have HLN:=Lib.hid hw.len
 have hle:=hw.le
 have hmx:=hw.max
 obtain⟨b,off,hA,hb,hub,hc⟩:=hw.hat (by omega)
 subst hA
 have HUB:=Lib.hid hub
 have HC:=Lib.hid hc
 obtain⟨s0,hs0⟩: ∃s,ws[0]?=some s:=⟨_,List.getElem?_eq_getElem (by rw [←hw.len];omega)⟩
 have HIE:=Lib.hid (inside_eq σ m ws s0 hs0)
 rw [←hw.len] at HIE
 have w0:=hc 0 s0 hs0
 rw [Nat.add_zero] at w0
 have z0:=hz s0 (List.mem_of_getElem? hs0)
 have p0:=hne s0 (List.mem_of_getElem? hs0)
 have HTL:=Lib.hid (show s0.toList=s0.data.toList from ByteArray.toList_eq _)
 have hB:=h.hB
 have hkl:=h.box.lt
 have hxl:=hm.box.lt
 have c12:=h.box.cell 12 rfl
 rw [hV] at c12
 have x9:=hm.box.cell 9 rfl
 have zx9:=hm.box.frozen 9
 have xw10:=hm.box.cell 10 rfl
 have hkx: ¬kb=xb:=fun e=>by have h1:=h.kc;rw [e,hm.xc] at h1;omega
 have hxk: ¬xb=kb:=fun e=>hkx e.symm
 have hbx: ¬b=xb:=fun e=>by have h1:=hm.xc;rw [←e,show ρ b=0 from hub] at h1;omega
 have hxb: ¬xb=b:=fun e=>hbx e.symm
 obtain⟨u,hu⟩: ∃u,s0[s0.size - 1]'(by omega)=u:=⟨_,rfl⟩
 have HLU:=Lib.hid (show s0.data.toList.getLastD 0=u by rw [←last_at s0 p0,hu])
 have hS1:((s0.size:Int) - 1)=((s0.size - 1:Nat):Int):=by omega
 obtain⟨wA,hwA⟩: ∃W,W=w.setCell ⟨xb,9,none⟩ (.bool false):=⟨_,rfl⟩
 have MA:=hm.setc 9 (.bool false) (m':=m.ff) (U':=U) rfl rfl rfl rfl rfl hm.none ⟨rfl,rfl,rfl,rfl⟩
 rw [←hwA] at MA
 have GA:=Lib.hid (MA.2.mono (cs':=allC) (by decide))
 have KA:=Lib.hid (h.keep MA.2 (h.low.mono (by rw [hwA];simp)) (by intro c h1 h2 hm;simp at hm;omega))
 have WA:=Lib.hid (hw.chg MA.2 (by decide))
 have MA:=Lib.hid MA.1
 have BA:=Lib.hid (GA.out.below h.low hB (by decide))
 have SA:=Lib.hid (first_small hMS)
 have HS:=Lib.hid hS
 have HWA:=Lib.hid hwA
 obtain⟨f,hf⟩: ∃f,m.first=f:=⟨_,rfl⟩
 rw [hf] at x9 HIE
 clear hw hz h hm hc hs0 hub hne hwA hV hf hMS hS
 by_cases hl1:f=true∧s0.data.toList= [108,105,109,105,116,115]
 ·obtain⟨rfl,hl⟩:=hl1
  have HI2:=Lib.hid (HIE.out.trans (if_pos ⟨rfl,hl⟩))
  have e0:(s0.toList== [108,105,109,105,116,115])=true:=by rw [HTL.out,hl];rfl
  clear hl
  by_cases h3:n=3
  ·have h3':((n:Int)==3)=true:=by rw [h3];rfl
   obtain⟨s1,hs1⟩: ∃s,ws[1]?=some s:=⟨_,List.getElem?_eq_getElem (by rw [←HLN.out];omega)⟩
   obtain⟨s2,hs2⟩: ∃s,ws[2]?=some s:=⟨_,List.getElem?_eq_getElem (by rw [←HLN.out];omega)⟩
   have HI3:=Lib.hid (HI2.out.trans (if_pos h3))
   rw [getD_of hs1,getD_of hs2] at HI3
   have z1:=HZ.out s1 (List.mem_of_getElem? hs1)
   have z2:=HZ.out s2 (List.mem_of_getElem? hs2)
   have HW1:=Lib.hid (HC.out 1 s1 hs1)
   have HW2:=Lib.hid (HC.out 2 s2 hs2)
   have b1:(1:Int) < (n:Int):=by omega
   have b2:(2:Int) < (n:Int):=by omega
   clear hs1 hs2 h3
   go_enter Tryz.func24,Tryz.ntmps24
   go_wp2_with (go_at_call 26;refine stop_here ?_)
   refine go_on ?_
   rw [←HWA.out]
   refine(must_yes kb _ σ.line _ KA.out.box rfl).mono ?_
   rintro e wz ⟨rfl,rfl⟩
   go_wp2_with fail
   have y1:=(GA.out.cell0 (by decide) hb HUB.out (off+1)).trans HW1.out
   have y2:=(GA.out.cell0 (by decide) hb HUB.out (off+2)).trans HW2.out
   have HC1:=Lib.hid (fun(W:World) (hb:Below wz.heap.size wz W)=>adigits_any kb _ σ.line s1 0 255 W (KA.out.below hb).box rfl z1 (by omega))
   go_region_law (first
    | (go_simp;go_at_call 53;go_loud (
       with_reducible refine(HC1.out _ (by repeat' (first|with_reducible exact Below.refl _ _|with_reducible refine below_drewN ?_ _|with_reducible refine Below.drew ?_))).mono ?_
       intro e w5 hq
       rcases dpost_cases hq with⟨hp,rfl,hb5⟩ | ⟨da,hp,rfl,hb5⟩
       (have HN:=Lib.hid (show σ.inside m ws= .error σ.line from HI3.out.trans (by rw [hp];rfl));have B5:=Lib.hid (BA.out.trans ((Below.drew (Below.refl B wz)).trans (hb5.mono (show B≤wz.heap.size from KA.out.hB))));clear hp hb5 hq;exact(show _∧_ from⟨rfl,ipost_err HN.out B5.out⟩))
       have HD1:=Lib.hid hp
       have G5:=Lib.hid ((GA.out.trans (Chg.of_below (by repeat' (first|with_reducible exact Below.refl _ _|with_reducible refine below_drewN ?_ _|with_reducible refine Below.drew ?_)))).trans (Chg.of_below hb5))
       have K5:=Lib.hid ((KA.out.below (by repeat' (first|with_reducible exact Below.refl _ _|with_reducible refine below_drewN ?_ _|with_reducible refine Below.drew ?_))).below hb5)
       have HC2:=Lib.hid (fun(W:World) (hb:Below w5.heap.size w5 W)=>adigits_any kb _ σ.line s2 0 255 W (K5.out.below hb).box rfl z2 (by omega))
       have M5:=Lib.hid ((MA.out.below (by repeat' (first|with_reducible exact Below.refl _ _|with_reducible refine below_drewN ?_ _|with_reducible refine Below.drew ?_))).below hb5)
       have y2:=(G5.out.cell0 (by decide) hb HUB.out (off+2)).trans HW2.out
       clear hp hb5 hq))
    | (go_simp;go_at_call 53;go_loud (
       with_reducible refine(HC2.out _ (by repeat' (first|with_reducible exact Below.refl _ _|with_reducible refine below_drewN ?_ _|with_reducible refine Below.drew ?_))).mono ?_
       intro e w6 hq
       rcases dpost_cases hq with⟨hp,rfl,hb6⟩ | ⟨db,hp,rfl,hb6⟩
       (have HN:=Lib.hid (show σ.inside m ws= .error σ.line from HI3.out.trans (by rw [HD1.out,hp];rfl));have B6:=Lib.hid ((G5.out.below H.out.low hB (by decide)).trans (hb6.mono K5.out.hB));clear hp hb6 hq;exact(show _∧_ from⟨rfl,ipost_err HN.out B6.out⟩))
       have HD2:=Lib.hid hp
       have G6:=Lib.hid (G5.out.trans (Chg.of_below hb6))
       have K6:=Lib.hid (K5.out.below hb6)
       have M6:=Lib.hid (M5.out.below hb6)
       have x4:=M6.out.box.cell 4 rfl
       have zx4:=M6.out.box.frozen 4
       have x5:=M6.out.box.cell 5 rfl
       have zx5:=M6.out.box.frozen 5
       clear hp hb6 hq)))
   all_goals
    go_wp2_with fail
    have M7:=Lib.hid (M6.out.setc 4 (.int .i64 da) (m':={ m.ff with mv:={ m.mv with stack:=da } }) (U':=U) rfl rfl rfl rfl rfl M6.out.none ⟨rfl,rfl,rfl,rfl⟩)
    have M8:=Lib.hid (M7.out.1.setc 5 (.int .i64 db) (m':={ m.ff with mv:={ m.mv with stack:=da,locals:=db } }) (U':=U) rfl rfl rfl rfl rfl M6.out.none ⟨rfl,rfl,rfl,rfl⟩)
    have G8:=Lib.hid (M7.out.2.trans M8.out.2)
    have HF9:=Lib.hid (show σ.inside m ws= .ok { σ with m:=some { m.ff with mv:={ m.mv with stack:=da,locals:=db } } } from HI3.out.trans (by rw [HD1.out,HD2.out];rfl))
    refine⟨rfl, .tuple #[],by simp [results,Tryz.results24], ?_⟩
    exact ipost_ok (V':=V) HF9.out rfl ((K6.out.keep G8.out (K6.out.low.mono G8.out.size) (by intro c h1 h2 hm;simp at hm;omega)).wm _) ⟨xb,U,HV.out,M8.out.1⟩ (G6.out.trans (G8.out.mono (by decide)))
  ·have h3':((n:Int)==3)=false:=by rw [beq_eq_false_iff_ne];omega
   have HN:=Lib.hid (show σ.inside m ws= .error σ.line from HI2.out.trans (if_neg h3))
   go_enter Tryz.func24,Tryz.ntmps24
   go_wp2_with (go_at_call 26;refine stop_here ?_)
   refine go_on ?_
   rw [←HWA.out]
   refine(must_no kb _ σ.line _ KA.out.box rfl).mono ?_
   rintro e wz ⟨rfl,rfl⟩
   go_wp2_with fail
   exact(show _∧_ from⟨rfl,ipost_err HN.out BA.out⟩)
 ·have HI2:=Lib.hid (HIE.out.trans (if_neg hl1))
  have e0:f=false∨(f=true∧(s0.toList== [108,105,109,105,116,115])=false):=by
   cases f with
   |false=>exact .inl rfl
   |true=>exact .inr ⟨rfl,by rw [HTL.out];simpa using fun h=>hl1 ⟨rfl,h⟩⟩
  clear hl1
  by_cases hE:n=1∧s0.data.toList= [101,110,100]
  ·have HG9:=Lib.hid (HI2.out.trans (if_pos hE))
   obtain⟨h1,hE⟩:=hE
   have h1':((n:Int)==1)=true:=by rw [h1];rfl
   have e1:(s0.toList== [101,110,100])=true:=by rw [HTL.out,hE];rfl
   clear hE
   rcases e0 with rfl| ⟨rfl,e0⟩
   all_goals
    go_enter Tryz.func24,Tryz.ntmps24
    go_wp2_with (go_at_call 54;refine stop_here ?_)
    refine go_on ?_
    rw [←HWA.out]
    refine(HEN ρ B kb xb σ V m.ff U _ N KA.out HV.out MA.out HS.out SA.out hN).mono ?_
    intro e wz hq
    have HQ:=Lib.hid (ipost_of HG9.out (LPost.weak GA.out BA.out (fun c hc=>hc) hq))
    rcases lpost_cases hq with⟨σ',_,rfl⟩ | ⟨_,rfl⟩
    ·clear hq
     go_wp2_with fail
     refine⟨rfl, .tuple #[],by simp [results,Tryz.results24], ?_⟩
     exact HQ.out
    ·clear hq
     go_wp2_with fail
     exact(show _∧_ from⟨rfl,HQ.out⟩)
  ·have HI3:=Lib.hid (HI2.out.trans (if_neg hE))
   have e1:((n:Int)==1)=false∨(((n:Int)==1)=true∧(s0.toList== [101,110,100])=false):=by
    by_cases h1:n=1
    ·exact .inr ⟨by rw [h1];rfl,by rw [HTL.out];simpa using fun h=>hE ⟨h1,h⟩⟩
    ·exact .inl (by rw [beq_eq_false_iff_ne];omega)
   clear hE
   by_cases hL:n=1∧s0.data.toList.getLastD 0=58
   ·obtain⟨h1,hL⟩:=hL
    have HL2:=Lib.hid (HI3.out.trans (if_pos ⟨h1,hL⟩))
    have h1':((n:Int)==1)=true:=by rw [h1];rfl
    obtain rfl:u=58:=HLU.out.symm.trans hL
    have e1:(s0.toList== [101,110,100])=false:=by
     rcases e1 with e1| ⟨_,e1⟩
     ·rw [h1'] at e1;cases e1
     ·exact e1
    clear hL
    obtain⟨sl,hsl⟩: ∃sl,s0.extract 0 (s0.size - 1)=sl:=⟨_,rfl⟩
    have HSD:=Lib.hid (show sl.data.toList=s0.data.toList.dropLast by
     rw [←hsl,extract_list,List.drop_zero,Nat.sub_zero,List.dropLast_eq_take]
     try congr 1
     try rw [Array.length_toList]
     try rfl)
    rw [←HSD.out] at HL2
    have HLS:=Lib.hid (show sl.data.toList.length=sl.size from Array.length_toList)
    have HLT:=Lib.hid (show sl.toList=sl.data.toList from ByteArray.toList_eq _)
    have hss:sl.size≤maxLen:=by
     have:sl.size≤s0.size:=by rw [←hsl];simp<;>omega
     unfold maxLen;omega
    obtain⟨nl,fl,szl,hnl,hMl,hfl⟩:=MA.out.lab
    have HML:=Lib.hid hMl
    have HFL:=Lib.hid hfl
    have x10:=MA.out.box.cell 10 rfl
    obtain⟨lk,hlk⟩: ∃lk,aLook m.labels sl=lk:=⟨_,rfl⟩
    have HLK:=Lib.hid hlk
    have hfs:fl sl.data.toList=lk.map fun p:Nat=>Value.int .i64 p:=by
     rw [hfl,show(⟨sl.data.toList.toArray⟩:ByteArray)=sl from rfl]
     show(aLook m.labels sl).map _=_
     rw [hlk]
    obtain⟨CB,hCB⟩: ∃CB,CB=decide (0≤Lib.indexByte sl.data.toList 58):=⟨_,rfl⟩
    have HCB:=Lib.hid hCB
    have HCA:=Lib.hid (fun W=> (show Calls Tryz.prog 55 #[.string sl, .string ⟨#[58]⟩] W fun e w'=>e= .returned (.bool CB)∧w'=W by rw [hCB];exact Tryz.strings_Contains_one sl 58 W))
    clear hMl hfl hlk hCB
    have HIX:=Lib.hid (show CB=false↔(58:UInt8)∉sl.data.toList by
     rw [HCB.out]
     rcases indexByte_cases sl.data.toList 58 with⟨h1,h2⟩ | ⟨i,h1,h2,_⟩
     ·rw [h1]
      simp only [List.count_eq_zero] at h2
      exact⟨fun _=>h2,fun _=>rfl⟩
     ·rw [h1]
      constructor
      ·intro h
       have:=of_decide_eq_false h
       omega
      ·intro h
       exact absurd (List.count_pos_iff.1 h2) h)
    by_cases hA:sl.data.toList≠ []∧sl.data.toList.length≤255∧(58:UInt8)∉sl.data.toList∧aLook m.labels ⟨sl.data.toList.toArray⟩=none
    ·have HG9:=Lib.hid (HL2.out.trans (if_pos hA))
     obtain⟨a1,a2,a3,a4⟩:=hA
     have g1:sl.toList.isEmpty=false:=by rw [HLT.out];simpa using a1
     have g2:(sl.size:Int)≤255:=by rw [HLS.out] at a2;omega
     have g3:CB=false:=HIX.out.2 a3
     subst g3
     have g4:lk=none:=HLK.out.symm.trans a4
     subst g4
     have HA4:=Lib.hid a4
     clear a1 a2 a3 a4
     rcases e0 with rfl| ⟨rfl,e0⟩
     all_goals
      go_enter Tryz.func24,Tryz.ntmps24
      go_wp2_with (first| (go_at_call 55;refine(HCA.out _).mono ?_;rintro e wc ⟨rfl,rfl⟩) | (refine wpl_look rfl _ _ rfl Tryz.underlying9 Tryz.underlying69 (z:= .int .i64 0) (by kernel_rfl) rfl (HWA.out▸HML.out) rfl hss ?_;rw [hfs]) | (go_at_call 26;refine stop_here ?_))
      refine go_on ?_
      rw [←HWA.out]
      refine(must_yes kb _ σ.line _ KA.out.box rfl).mono ?_
      rintro e wz ⟨rfl,rfl⟩
      have y10:=MA.out.box.cell 10 rfl
      have y6:=MA.out.box.cell 6 rfl
      obtain⟨Ac,kc,hcv⟩:=own_slice MA.out.code.1
      rw [hcv] at y6
      go_wp2_with fail
      refine wp_region_head 11 (by kernel_rfl) (by kernel_rfl) ?_
      simp only [List.take_succ_cons,List.take_zero,List.drop_succ_cons,List.drop_zero]
      repeat go_big_quiet_step (fail)
      refine wpQuiet_nil ?_
      have hml:m.labels.length≤N:=SA.out.labels
      have hnl':nl≤m.labels.length:=hnl
      go_wp2_with (at_mapUpdate;refine wpl_put rfl _ _ _ rfl Tryz.underlying9 Tryz.underlying69 rfl (HML.out.keep (w':=wz.drewN 1) rfl) (by unfold maxLen;omega) rfl hss rfl ?_;intro w5 hm5 hg5;refine stop_here ?_)
      refine go_on ?_
      have HAL:=Lib.hid (MA.out.addL (w':=w5) ⟨hg5.os,hg5.tape,hg5.output,hg5.size,hg5.block⟩ (labM_put hnl HFL.out HA4.out hm5))
      clear hm5 hg5
      go_wp2_with fail
      refine⟨rfl, .tuple #[],by simp [results,Tryz.results24], ?_⟩
      exact ipost_ok (V':=V) HG9.out rfl ((KA.out.keep HAL.out.2 (KA.out.low.mono HAL.out.2.size) (by intro c h1 h2 hm;simp at hm;omega)).wm _) ⟨xb,U,HV.out,HAL.out.1⟩ (GA.out.trans (HAL.out.2.mono (by decide)))
    ·have HN:=Lib.hid (show σ.inside m ws= .error σ.line from HL2.out.trans (if_neg hA))
     have hbad:sl.toList.isEmpty=true∨(sl.toList.isEmpty=false∧(¬(sl.size:Int)≤255∨((sl.size:Int)≤255∧(CB=true∨(CB=false∧ ∃p,lk=some p))))):=by
      by_cases a1:sl.data.toList= []
      ·left;rw [HLT.out,a1];rfl
      ·right
       refine⟨by rw [HLT.out];simpa using a1, ?_⟩
       by_cases a2:sl.data.toList.length≤255
       ·right
        refine⟨by rw [HLS.out] at a2;omega, ?_⟩
        cases hcb:CB with
        |true=>exact .inl rfl
        |false=>
         right
         refine⟨rfl, ?_⟩
         cases hq:lk with
         |none=>exact absurd ⟨a1,a2,HIX.out.1 hcb,HLK.out.trans hq⟩ hA
         |some p=>exact⟨p,rfl⟩
       ·left;rw [HLS.out] at a2;omega
     clear hA
     rcases hbad with g1| ⟨g1,g2| ⟨g2,rfl| ⟨rfl,p,rfl⟩⟩⟩
     all_goals
      rcases e0 with rfl| ⟨rfl,e0⟩
      all_goals
       go_enter Tryz.func24,Tryz.ntmps24
       go_wp2_with (first| (go_at_call 55;refine(HCA.out _).mono ?_;rintro e wc ⟨rfl,rfl⟩) | (refine wpl_look rfl _ _ rfl Tryz.underlying9 Tryz.underlying69 (z:= .int .i64 0) (by kernel_rfl) rfl (HWA.out▸HML.out) rfl hss ?_;rw [hfs]) | (go_at_call 26;refine stop_here ?_))
       refine go_on ?_
       rw [←HWA.out]
       refine(must_no kb _ σ.line _ KA.out.box rfl).mono ?_
       rintro e wz ⟨rfl,rfl⟩
       go_wp2_with fail
       exact(show _∧_ from⟨rfl,ipost_err HN.out BA.out⟩)
   ·have HI4:=Lib.hid (HI3.out.trans (if_neg hL))
    have e2:((n:Int)==1)=false∨(((n:Int)==1)=true∧((u.toNat:Int)==58)=false):=by
     by_cases h1:n=1
     ·refine .inr ⟨by rw [h1];rfl, ?_⟩
      rw [beq_eq_false_iff_ne]
      exact fun e=>hL ⟨h1,HLU.out.trans (UInt8.toNat_inj.1 (by rw [show u.toNat=58 by omega];rfl))⟩
     ·exact .inl (by rw [beq_eq_false_iff_ne];omega)
    by_cases hT:s0.data.toList= [116,114,97,112]
    ·have HI5:=Lib.hid (HI4.out.trans (if_pos hT))
     have e3:(s0.toList== [116,114,97,112])=true:=by rw [HTL.out,hT];rfl
     clear hT hL
     by_cases h4:n=4
     ·have h4':((n:Int)==4)=true:=by rw [h4];rfl
      have h1f:((n:Int)==1)=false:=by rw [h4];rfl
      have h5f:((n:Int)==5)=false:=by rw [h4];rfl
      obtain⟨s1,hs1⟩: ∃s,ws[1]?=some s:=⟨_,List.getElem?_eq_getElem (by rw [←HLN.out];omega)⟩
      obtain⟨s2,hs2⟩: ∃s,ws[2]?=some s:=⟨_,List.getElem?_eq_getElem (by rw [←HLN.out];omega)⟩
      obtain⟨s3,hs3⟩: ∃s,ws[3]?=some s:=⟨_,List.getElem?_eq_getElem (by rw [←HLN.out];omega)⟩
      have HG9:=Lib.hid (HI5.out.trans (if_pos h4))
      rw [getD_of hs1,getD_of hs2,getD_of hs3] at HG9
      have HW1:=Lib.hid (HC.out 1 s1 hs1)
      have HW2:=Lib.hid (HC.out 2 s2 hs2)
      have HW3:=Lib.hid (HC.out 3 s3 hs3)
      have b1:(1:Int) < (n:Int):=by omega
      have b2:(2:Int) < (n:Int):=by omega
      have b3:(3:Int) < (n:Int):=by omega
      clear hs1 hs2 hs3 h4 e1 e2
      rcases e0 with rfl| ⟨rfl,e0⟩
      all_goals
       go_enter Tryz.func24,Tryz.ntmps24
       go_wp2_with (go_at_call 26;refine stop_here ?_)
       refine go_on ?_
       rw [←HWA.out]
       refine(must_yes kb _ σ.line _ KA.out.box rfl).mono ?_
       rintro e wz ⟨rfl,rfl⟩
       go_wp2_with fail
       have y1:=(GA.out.cell0 (by decide) hb HUB.out (off+1)).trans HW1.out
       have y2:=(GA.out.cell0 (by decide) hb HUB.out (off+2)).trans HW2.out
       have y3:=(GA.out.cell0 (by decide) hb HUB.out (off+3)).trans HW3.out
       have hbz:b<wz.heap.size:=Nat.lt_of_lt_of_le hb GA.out.size
       obtain⟨v1,v2,v3,v4,v5,v6,v7,v8,v9,v10,v11,v12⟩:=far b wz.heap.size hbz
       go_region_held2 (fun w'=>w'.cell? ⟨b,off+1,none⟩=some (.string s1)∧w'.cell? ⟨b,off+2,none⟩=some (.string s2)∧w'.cell? ⟨b,off+3,none⟩=some (.string s3)) (go_keep) (fail)
       obtain⟨wT,hwT⟩: ∃W,W=(wz.alloc (.cells #[.string s1, .string s2, .string s3, .int .i64 0] 127)).drew:=⟨_,rfl⟩
       rw [←hwT]
       have BT:=Lib.hid (show Below wz.heap.size wz wT by rw [hwT];exact((Below.refl _ _).alloc (Nat.le_refl _) _).drew)
       have XT:=Lib.hid (show Bx wT wz.heap.size [.string s1, .string s2, .string s3, .int .i64 0] 127 by rw [hwT];exact bx_new wz _ _)
       have KT:=Lib.hid (KA.out.below BT.out)
       have MT:=Lib.hid (MA.out.below BT.out)
       have GT:=Lib.hid (GA.out.trans (Chg.of_below BT.out))
       have RT:=Lib.hid (KA.out.low.fresh (Nat.le_refl wz.heap.size))
       have hwl:w.heap.size≤wz.heap.size:=GA.out.size
       clear hwT y1 y2 y3
       have a0:=XT.out.cell 0 rfl
       have a1:=XT.out.cell 1 rfl
       have a2:=XT.out.cell 2 rfl
       have a3:=XT.out.cell 3 rfl
       have x12:=MT.out.box.cell 12 rfl
       have zx12:=MT.out.box.frozen 12
       have hxw:=MT.out.box.lt
       have htw:=XT.out.lt
       have hBw:=KT.out.hB
       have hlt:m.ff.traps.length≤900000:=Nat.le_trans SA.out.traps hN
       have hnx:U.tv.ownBlock≠some xb:=fun e=>by have h1:=MT.out.traps.2 _ e;rw [MT.out.xc] at h1;omega
       obtain⟨r1,r2,r3,r4,r5,r6,r7,r8,r9,r10,r11,r12⟩:=far xb wT.heap.size hxw
       obtain⟨q1,q2,q3,q4,q5,q6,q7,q8,q9,q10,q11,q12⟩:=far wz.heap.size wT.heap.size htw
       go_wp2_with fail
       go_region_law (first
        | (refine step_lies rfl (.tmp 166) (.tmp 168) 71 rfl Tryz.underlying71 info_atrap rfl (by omega) B rfl ((own_heap MT.out.traps.1 (fun _ _=>rfl)).alloc _) rfl rfl (cells_new_at _ _ _ _ (by first|rfl|omega| (simp<;>omega))) (by simp [Value.oneCell']) (by omega) (by simp only [maxLen];omega) (by omega) (by first|omega| (simp<;>omega)) ?_
           intro g6 cap6 W' ho hg hb hgg
           have HO6:=Lib.hid ho
           have HG6:=Lib.hid hg
           have X6:=Lib.hid (show Bx W' xb (mtCells m.ff U) 73 from(hg.block xb (by first|omega| (simp;omega)) (fun e=>hnx e.symm)).trans ((Below.heap_alloc _ _ _ (by first|omega| (simp;omega))).trans MT.out.box))
           have c6:=X6.out.cell 12 rfl
           have z6:=X6.out.frozen 12
           have HGG:=Lib.hid hgg
           clear ho hg hb hgg))
       all_goals
        go_wp2_with fail
        have hg6:U.tv.ownBlock=some g6∨wT.heap.size≤g6:=by
         rcases HGG.out with e|e
         ·exact .inl e
         ·right
          first|omega| (simp at e;omega)
        have hgx:g6≠xb:=by
         rintro rfl
         rcases hg6 with e|e
         ·exact hnx e
         ·omega
        have hz6':wT.heap.size+1≤W'.heap.size:=Nat.le_trans (Nat.le_of_eq (World.size_alloc wT _).symm) HG6.out.size
        obtain⟨ρ5,tv5,hM,hC5,hL5⟩:=MT.out.addT (x:=⟨s1,s2,s3,0⟩) (w':=W'.setCell ⟨xb,12,none⟩ (.slice (some ⟨g6,0,none⟩) (m.ff.traps.length+1) cap6)) (g:=g6) (cap:=cap6) KT.out.low HG6.out.os HG6.out.tape HG6.out.output (by first|omega| (simp;omega))
         (fun q hq h1 h2=> (Below.heap_setCell _ _ _ _ h1).trans ((HG6.out.block q (by first|omega| (simp;omega)) (fun e=>h2 e.symm)).trans (Below.heap_alloc _ _ _ (by first|omega| (simp;omega)))))
         (X6.out.set 12 _) (own_set HO6.out hgx _) hg6
        refine⟨rfl, .tuple #[],by simp [results,Tryz.results24], ?_⟩
        exact ipost_ok (V':=V) HG9.out rfl ((KT.out.keep hC5 hL5 (by intro c h1 h2 hm;simp at hm;omega)).wm _) ⟨xb,{ U with tv:=tv5 },HV.out,hM⟩ (GT.out.trans (hC5.mono (by decide)))
     ·by_cases h5:n=5
      ·have h4f:((n:Int)==4)=false:=by rw [h5];rfl
       have h1f:((n:Int)==1)=false:=by rw [h5];rfl
       have h5':((n:Int)==5)=true:=by rw [h5];rfl
       obtain⟨s4,hs4⟩: ∃s,ws[4]?=some s:=⟨_,List.getElem?_eq_getElem (by rw [←HLN.out];omega)⟩
       obtain⟨s1,hs1⟩: ∃s,ws[1]?=some s:=⟨_,List.getElem?_eq_getElem (by rw [←HLN.out];omega)⟩
       obtain⟨s2,hs2⟩: ∃s,ws[2]?=some s:=⟨_,List.getElem?_eq_getElem (by rw [←HLN.out];omega)⟩
       obtain⟨s3,hs3⟩: ∃s,ws[3]?=some s:=⟨_,List.getElem?_eq_getElem (by rw [←HLN.out];omega)⟩
       have HG9:=Lib.hid ((HI5.out.trans (if_neg h4)).trans (if_pos h5))
       rw [getD_of hs1,getD_of hs2,getD_of hs3,getD_of hs4] at HG9
       have z4:=HZ.out s4 (List.mem_of_getElem? hs4)
       have HW4:=Lib.hid (HC.out 4 s4 hs4)
       have b4:(4:Int) < (n:Int):=by omega
       have HW1:=Lib.hid (HC.out 1 s1 hs1)
       have HW2:=Lib.hid (HC.out 2 s2 hs2)
       have HW3:=Lib.hid (HC.out 3 s3 hs3)
       have b1:(1:Int) < (n:Int):=by omega
       have b2:(2:Int) < (n:Int):=by omega
       have b3:(3:Int) < (n:Int):=by omega
       clear hs1 hs2 hs3 hs4 h4 h5 e1 e2
       rcases e0 with rfl| ⟨rfl,e0⟩
       all_goals
        go_enter Tryz.func24,Tryz.ntmps24
        go_wp2_with (go_at_call 26;refine stop_here ?_)
        refine go_on ?_
        rw [←HWA.out]
        refine(must_yes kb _ σ.line _ KA.out.box rfl).mono ?_
        rintro e wz ⟨rfl,rfl⟩
        go_wp2_with fail
        have y1:=(GA.out.cell0 (by decide) hb HUB.out (off+1)).trans HW1.out
        have y2:=(GA.out.cell0 (by decide) hb HUB.out (off+2)).trans HW2.out
        have y3:=(GA.out.cell0 (by decide) hb HUB.out (off+3)).trans HW3.out
        have hbz:b<wz.heap.size:=Nat.lt_of_lt_of_le hb GA.out.size
        obtain⟨v1,v2,v3,v4,v5,v6,v7,v8,v9,v10,v11,v12⟩:=far b wz.heap.size hbz
        go_region_held2 (fun w'=>w'.cell? ⟨b,off+1,none⟩=some (.string s1)∧w'.cell? ⟨b,off+2,none⟩=some (.string s2)∧w'.cell? ⟨b,off+3,none⟩=some (.string s3)) (go_keep) (fail)
        obtain⟨wT,hwT⟩: ∃W,W=(wz.alloc (.cells #[.string s1, .string s2, .string s3, .int .i64 0] 127)).drew:=⟨_,rfl⟩
        rw [←hwT]
        have BT:=Lib.hid (show Below wz.heap.size wz wT by rw [hwT];exact((Below.refl _ _).alloc (Nat.le_refl _) _).drew)
        have XT:=Lib.hid (show Bx wT wz.heap.size [.string s1, .string s2, .string s3, .int .i64 0] 127 by rw [hwT];exact bx_new wz _ _)
        have KT:=Lib.hid (KA.out.below BT.out)
        have MT:=Lib.hid (MA.out.below BT.out)
        have GT:=Lib.hid (GA.out.trans (Chg.of_below BT.out))
        have RT:=Lib.hid (KA.out.low.fresh (Nat.le_refl wz.heap.size))
        have hwl:w.heap.size≤wz.heap.size:=GA.out.size
        clear hwT y1 y2 y3
        have y4:=(GT.out.cell0 (by decide) hb HUB.out (off+4)).trans HW4.out
        have hpl:σ.c.pool.length≤900000:=Nat.le_trans HS.out.npool hN
        go_wp2_with (go_at_call 56;refine stop_here ?_)
        refine go_on ?_
        refine(acls_any ρ B kb σ V s4 _ KT.out z4 (by omega)).mono ?_
        rintro e w3 ⟨rfl,ρ3,pv3,hm,hg⟩
        have K3:=Lib.hid hm
        have M3:=Lib.hid (MT.out.keep hg (by intro c h1 h2 hm;simp at hm;omega))
        have G3:=Lib.hid (GT.out.trans (hg.mono (by decide)))
        have X3:=Lib.hid (hg.bx XT.out (by rw [RT.out];decide))
        have R3:=Lib.hid ((hg.blk wz.heap.size XT.out.lt (by rw [RT.out];decide)).2.trans RT.out)
        clear hm hg y4
        have t3:=X3.out.cell 3 rfl
        have zt3:=X3.out.frozen 3
        go_wp2_with fail
        obtain⟨wS,hwS⟩: ∃W,W=w3.setCell ⟨wz.heap.size,3,none⟩ (.int .i64 (σ.cls s4).1):=⟨_,rfl⟩
        rw [←hwS]
        have KS:=Lib.hid (show MkC wS ρ3 B kb (σ.cls s4).2 { V with pv:=pv3 } by rw [hwS];exact K3.out.free R3.out _)
        have MS:=Lib.hid (show MtC wS ρ3 B xb m.ff U by rw [hwS];exact M3.out.free R3.out _)
        have GS:=Lib.hid (show Chg allC w ρ wS ρ3 by rw [hwS];exact G3.out.fresh hwl _)
        have XS:=Lib.hid (show Bx wS wz.heap.size ([Value.string s1, .string s2, .string s3, .int .i64 0].set 3 (.int .i64 (σ.cls s4).1)) 127 by rw [hwS];exact X3.out.set 3 _)
        clear hwS t3 zt3
        have a0:=XS.out.cell 0 rfl
        have a1:=XS.out.cell 1 rfl
        have a2:=XS.out.cell 2 rfl
        have a3:=XS.out.cell 3 rfl
        have x12:=MS.out.box.cell 12 rfl
        have zx12:=MS.out.box.frozen 12
        have hxw:=MS.out.box.lt
        have htw:=XS.out.lt
        have hBw:=KS.out.hB
        have hlt:m.ff.traps.length≤900000:=Nat.le_trans SA.out.traps hN
        have hnx:U.tv.ownBlock≠some xb:=fun e=>by have h1:=MS.out.traps.2 _ e;rw [MS.out.xc] at h1;omega
        obtain⟨r1,r2,r3,r4,r5,r6,r7,r8,r9,r10,r11,r12⟩:=far xb wS.heap.size hxw
        obtain⟨q1,q2,q3,q4,q5,q6,q7,q8,q9,q10,q11,q12⟩:=far wz.heap.size wS.heap.size htw
        go_region_law (first
         | (refine step_lies rfl (.tmp 166) (.tmp 168) 71 rfl Tryz.underlying71 info_atrap rfl (by omega) B rfl ((own_heap MS.out.traps.1 (fun _ _=>rfl)).alloc _) rfl rfl (cells_new_at _ _ _ _ (by first|rfl|omega| (simp<;>omega))) (by simp [Value.oneCell']) (by omega) (by simp only [maxLen];omega) (by omega) (by first|omega| (simp<;>omega)) ?_
            intro g6 cap6 W' ho hg hb hgg
            have HO6:=Lib.hid ho
            have HG6:=Lib.hid hg
            have X6:=Lib.hid (show Bx W' xb (mtCells m.ff U) 73 from(hg.block xb (by first|omega| (simp;omega)) (fun e=>hnx e.symm)).trans ((Below.heap_alloc _ _ _ (by first|omega| (simp;omega))).trans MS.out.box))
            have c6:=X6.out.cell 12 rfl
            have z6:=X6.out.frozen 12
            have HGG:=Lib.hid hgg
            clear ho hg hb hgg))
        all_goals
         go_wp2_with fail
         have hg6:U.tv.ownBlock=some g6∨wS.heap.size≤g6:=by
          rcases HGG.out with e|e
          ·exact .inl e
          ·right
           first|omega| (simp at e;omega)
         have hgx:g6≠xb:=by
          rintro rfl
          rcases hg6 with e|e
          ·exact hnx e
          ·omega
         have hz6':wS.heap.size+1≤W'.heap.size:=Nat.le_trans (Nat.le_of_eq (World.size_alloc wS _).symm) HG6.out.size
         obtain⟨ρ5,tv5,hM,hC5,hL5⟩:=MS.out.addT (x:=⟨s1,s2,s3,(σ.cls s4).1⟩) (w':=W'.setCell ⟨xb,12,none⟩ (.slice (some ⟨g6,0,none⟩) (m.ff.traps.length+1) cap6)) (g:=g6) (cap:=cap6) KS.out.low HG6.out.os HG6.out.tape HG6.out.output (by first|omega| (simp;omega))
          (fun q hq h1 h2=> (Below.heap_setCell _ _ _ _ h1).trans ((HG6.out.block q (by first|omega| (simp;omega)) (fun e=>h2 e.symm)).trans (Below.heap_alloc _ _ _ (by first|omega| (simp;omega)))))
          (X6.out.set 12 _) (own_set HO6.out hgx _) hg6
         refine⟨rfl, .tuple #[],by simp [results,Tryz.results24], ?_⟩
         exact ipost_ok (V':={ V with pv:=pv3 }) HG9.out rfl ((KS.out.keep hC5 hL5 (by intro c h1 h2 hm;simp at hm;omega)).wm _) ⟨xb,{ U with tv:=tv5 },HV.out,hM⟩ (GS.out.trans (hC5.mono (by decide)))
      ·have HN:=Lib.hid (show σ.inside m ws= .error σ.line from(HI5.out.trans (if_neg h4)).trans (if_neg h5))
       have h4f:((n:Int)==4)=false:=by rw [beq_eq_false_iff_ne];omega
       have h5f:((n:Int)==5)=false:=by rw [beq_eq_false_iff_ne];omega
       rcases e2 with e2| ⟨e2,e2'⟩
       ·rcases e0 with rfl| ⟨rfl,e0⟩
        all_goals
         go_enter Tryz.func24,Tryz.ntmps24
         go_wp2_with (go_at_call 26;refine stop_here ?_)
         refine go_on ?_
         rw [←HWA.out]
         refine(must_no kb _ σ.line _ KA.out.box rfl).mono ?_
         rintro e wz ⟨rfl,rfl⟩
         go_wp2_with fail
         exact(show _∧_ from⟨rfl,ipost_err HN.out BA.out⟩)
       ·rcases e1 with e1| ⟨_,e1⟩
        ·rw [e2] at e1
         cases e1
        rcases e0 with rfl| ⟨rfl,e0⟩
        all_goals
         go_enter Tryz.func24,Tryz.ntmps24
         go_wp2_with (go_at_call 26;refine stop_here ?_)
         refine go_on ?_
         rw [←HWA.out]
         refine(must_no kb _ σ.line _ KA.out.box rfl).mono ?_
         rintro e wz ⟨rfl,rfl⟩
         go_wp2_with fail
         exact(show _∧_ from⟨rfl,ipost_err HN.out BA.out⟩)
    ·have HG9:=Lib.hid (HI4.out.trans (if_neg hT))
     have e3:(s0.toList== [116,114,97,112])=false:=by rw [HTL.out];simpa using hT
     clear hT
     clear hL
     rcases e2 with e2| ⟨e2,e2'⟩
     ·rcases e0 with rfl| ⟨rfl,e0⟩
      all_goals
       go_enter Tryz.func24,Tryz.ntmps24
       go_wp2_with (go_at_call 57;refine stop_here ?_)
       refine go_on ?_
       rw [←HWA.out]
       refine(HIN ρ B kb xb σ V m.ff U _ n cap ws _ N KA.out HV.out MA.out WA.out HZ.out hn HS.out SA.out hN).mono ?_
       intro e wz hq
       have HQ:=Lib.hid (ipost_of HG9.out (LPost.weak GA.out BA.out (fun c hc=>hc) hq))
       rcases lpost_cases hq with⟨σ',_,rfl⟩ | ⟨_,rfl⟩
       ·clear hq
        go_wp2_with fail
        refine⟨rfl, .tuple #[],by simp [results,Tryz.results24], ?_⟩
        exact HQ.out
       ·clear hq
        go_wp2_with fail
        exact(show _∧_ from⟨rfl,HQ.out⟩)
     ·rcases e1 with e1| ⟨_,e1⟩
      ·rw [e2] at e1
       cases e1
      rcases e0 with rfl| ⟨rfl,e0⟩
      all_goals
       go_enter Tryz.func24,Tryz.ntmps24
       go_wp2_with (go_at_call 57;refine stop_here ?_)
       refine go_on ?_
       rw [←HWA.out]
       refine(HIN ρ B kb xb σ V m.ff U _ n cap ws _ N KA.out HV.out MA.out WA.out HZ.out hn HS.out SA.out hN).mono ?_
       intro e wz hq
       have HQ:=Lib.hid (ipost_of HG9.out (LPost.weak GA.out BA.out (fun c hc=>hc) hq))
       rcases lpost_cases hq with⟨σ',_,rfl⟩ | ⟨_,rfl⟩
       ·clear hq
        go_wp2_with fail
        refine⟨rfl, .tuple #[],by simp [results,Tryz.results24], ?_⟩
        exact HQ.out
       ·clear hq
        go_wp2_with fail
        exact(show _∧_ from⟨rfl,HQ.out⟩)
end Go.Proofs.YtlcidkiplidamaaGreatDoor
namespace Go.Proofs.YtlcidkiplidamaaGreatDoor
open Go Go.RowKit Lib
section Until
variable {P:Program} {ops:Array Oper} {Q:Exit→Act→World→Prop} {S:World→Prop} {z:Nat}
def wpUn (P:Program) (ops:Array Oper) (Q:Exit→Act→World→Prop) (S:World→Prop) (z:Nat):Nat→Array Bool→Act→World→Prop
 |0,L,a,w=>Region.ready .any ops L= []∧Q .normal a w
 |f+1,L,a,w=> (Region.ready .any ops L= []→Q .normal a w)∧ ∀i∈Region.ready .any ops L,wpOp P ops Q i (fun a' w'=> (i≠z→S w')∧wpUn P ops Q S z f (L.setIfInBounds i true) a' w') a w
theorem any_of_un: ∀(f:Nat) (L:Array Bool) (a:Act) (w:World),wpUn P ops Q S z f L a w→wpAny P .any ops Q f L a w
 |0,_,_,_,h=>h
 |f+1,_,_,_,h=> ⟨h.1,fun i hi=>wpOp_mono (fun a' w' k=>any_of_un f _ a' w' k.2) (h.2 i hi)⟩
def waitsB (ops:Array Oper) (z i:Nat):Bool:=match ops[z]? with|some o=>o.after.any fun e=>Region.binds .any e&&e.on==i|none=>false
theorem un_first {i:Nat} {oi:Oper} {v:Value} (hi:ops[i]?=some oi) (hw:waitsB ops z i=true) (hs:Region.noSelect ops=true) (hQ: ∀c a w,Q (.panic c) (a.put oi.dst v) w→Q (.panic c) a w):
  ∀(f:Nat) (L:Array Bool) (a:Act) (w:World),(∀j oj,ops[j]?=some oj→j≠i→L.getD j true=false→(∀e∈oj.after,Region.binds .any e=true→e.on≠i)→oi.apart ops oj=true)→i∈Region.ready .any ops L→YieldsIf P ops S oi v a→S w→
   wpUn P ops Q S z f (L.setIfInBounds i true) (a.put oi.dst v) w→wpUn P ops Q S z (f+1) L a w:=by
 have hsel:=Region.noSelect_spec hs
 intro f
 induction f with
 |zero=>
  intro L a w hfr hr hy hS H
  refine⟨fun h=> (by rw [h] at hr;cases hr),fun j hj=> ?_⟩
  by_cases hji:j=i
  ·subst hji
   exact hy.wpOp hi hS ⟨fun _=>hS,H⟩
  ·have:=ready_mono hj hji
   rw [H.1] at this
   cases this
 |succ f ih=>
  intro L a w hfr hr hy hS H
  refine⟨fun h=> (by rw [h] at hr;cases hr),fun j hj=> ?_⟩
  by_cases hji:j=i
  ·subst hji
   exact hy.wpOp hi hS ⟨fun _=>hS,H⟩
  ·obtain⟨hjun,oj,hoj,hall⟩:=mem_ready.1 hj
   have hno: ∀e∈oj.after,Region.binds .any e=true→e.on≠i:=fun e he hb heq=>by
    have h1:=hall e he hb
    have h0:=(mem_ready.1 hr).1
    rw [heq] at h1
    rcases Nat.lt_or_ge i L.size with h'|h'
    ·simp [h'] at h0 h1
     rw [h0] at h1
     cases h1
    ·simp [Array.getElem?_eq_none h'] at h1
   have hjz:j≠z:=by
    rintro rfl
    unfold waitsB at hw
    rw [hoj] at hw
    obtain⟨e,he,h2⟩:=Array.any_eq_true'.1 hw
    simp only [Bool.and_eq_true,beq_iff_eq] at h2
    exact hno e he h2.1 h2.2
   have h2:=wpOp_putIf hoj (hfr j oj hoj hji hjun hno) (fun cs b=>hsel i oi cs b hi) (fun cs b=>hsel j oj cs b hoj) hQ hy (H.2 j (ready_mono hj hji))
   refine wpOp_mono (fun a' w' h3=> ⟨h3.2.1,ih (L.setIfInBounds j true) a' w' (fun k ok hk hki hun hn=> ?_) (ready_mono hr (Ne.symm hji)) h3.1 (h3.2.1 hjz) ?_⟩) h2
   ·refine hfr k ok hk hki ?_ hn
    by_cases hjk:j=k
    ·subst hjk
     exact hjun
    ·rw [getD_set_ne true hjk] at hun
     exact hun
   ·rw [Array.setIfInBounds_comm _ _ hji]
    exact h3.2.2
def unB (ops:Array Oper) (L:Array Bool) (z i:Nat):Bool:=Region.noSelect ops&&Region.free .any ops L i&&(Region.ready .any ops L).contains i&&waitsB ops z i
theorem un_take (i:Nat) {oi:Oper} (v:Value) {f:Nat} {L:Array Bool} {a:Act} {w:World} (hi:ops[i]?=some oi) (hb:unB ops L z i=true) (hQ: ∀c a w,Q (.panic c) (a.put oi.dst v) w→Q (.panic c) a w)
  (hw:Region.wanted oi (yielded ops a.tmps)=true) (hy: ∀w,S w→(execOp a.eval oi).run P w= .ok (.value v) w) (hS:S w) (h:wpUn P ops Q S z f (L.setIfInBounds i true) (a.put oi.dst v) w):wpUn P ops Q S z (f+1) L a w:=by
 simp only [unB,Bool.and_eq_true] at hb
 obtain⟨⟨⟨h1,h2⟩,h3⟩,h4⟩:=hb
 exact un_first hi h4 h1 hQ f L a w (Region.free_spec hi h2) (by simpa using h3) (.inl ⟨hw,hy⟩) hS h
def TkGo (P:Program) (ops:Array Oper) (S:World→Prop):List Nat→Act→(Act→Prop)→Prop
 | [],a,K=>K a
 |i::r,a,K=> ∃oi v,ops[i]?=some oi∧Region.wanted oi (yielded ops a.tmps)=true∧(∀w,S w→(execOp a.eval oi).run P w= .ok (.value v) w)∧TkGo P ops S r (a.put oi.dst v) K
theorem tk_cons {i:Nat} {r:List Nat} {oi:Oper} {a:Act} {K:Act→Prop} (v:Value) (hi:ops[i]?=some oi) (hw:Region.wanted oi (yielded ops a.tmps)=true) (hy: ∀w,S w→(execOp a.eval oi).run P w= .ok (.value v) w) (h:TkGo P ops S r (a.put oi.dst v) K):TkGo P ops S (i::r) a K:=⟨oi,v,hi,hw,hy,h⟩
theorem tk_nil {a:Act} {K:Act→Prop} (h:K a):TkGo P ops S [] a K:=h
def unsB (ops:Array Oper) (z:Nat):Array Bool→List Nat→Bool
 |_, []=>true
 |L,i::r=>unB ops L z i&&unsB ops z (L.setIfInBounds i true) r
def listL (L:Array Bool) (l:List Nat):Array Bool:=l.foldl (fun L i=>L.setIfInBounds i true) L
theorem un_go (hQ: ∀c a w d v,Q (.panic c) (a.put d v) w→Q (.panic c) a w) {w:World} (hS:S w): ∀(l:List Nat) (f:Nat) (L:Array Bool) (a:Act),unsB ops z L l=true→TkGo P ops S l a (fun a'=>wpUn P ops Q S z f (listL L l) a' w)→wpUn P ops Q S z (f+l.length) L a w
 | [],_,_,_,_,h=>h
 |i::r,f,L,a,hb,h=>by
  obtain⟨oi,v,hi,hw,hy,h⟩:=h
  unfold unsB at hb
  rw [Bool.and_eq_true] at hb
  exact un_take i v hi hb.1 (fun c a w=>hQ c a w _ _) hw hy hS (un_go hQ hS r f _ _ hb.2 h)
theorem un_many (l:List Nat) (f:Nat) {F:Nat} {L:Array Bool} {a:Act} {w:World} (hF:F=f+l.length) (hb:unsB ops z L l=true) (hQ: ∀c a w d v,Q (.panic c) (a.put d v) w→Q (.panic c) a w) (hS:S w) (h:TkGo P ops S l a (fun a'=>wpUn P ops Q S z f (listL L l) a' w)):wpUn P ops Q S z F L a w:=by
 subst hF
 exact un_go hQ hS l f L a hb h
theorem un_step {i:Nat} {o:Oper} {f:Nat} {L:Array Bool} {a:Act} {w:World} (hr:Region.ready .any ops L= [i]) (ho:ops[i]?=some o)
  (h: ∀K:Act→World→Prop,Shut (∀a w,(i≠z→S w)→((i≠z→S w)→wpUn P ops Q S z f (L.setIfInBounds i true) a w)→K a w)→if Region.wanted o (yielded ops a.tmps)=true then Oper.wp P o a w K Q else K (a.put o.dst undef) w):wpUn P ops Q S z (f+1) L a w:=by
 refine⟨fun h0=> (by rw [hr] at h0;cases h0),fun j hj=> ?_⟩
 rw [hr] at hj
 obtain rfl:=List.mem_singleton.1 hj
 exact wpOp_step ho fun K hK=>h K fun a w hS hW=>hK a w ⟨hS,hW hS⟩
theorem un_done {f:Nat} {L:Array Bool} {a:Act} {w:World} (hr:Region.ready .any ops L= []) (h:Q .normal a w):wpUn P ops Q S z f L a w:=by
 cases f with
 |zero=>exact⟨hr,h⟩
 |succ f=>exact⟨fun _=>h,fun i hi=>by rw [hr] at hi;cases hi⟩
theorem wp_region_un {id:Nat} {a:Act} {w:World} (S:World→Prop) (z:Nat) (hm:P.follows .mixedOrders=true) (hS:S w.drew) (h:S w.drew→wpUn P ops Q S z ops.size (Array.replicate ops.size false) a w.drew):(Code.region id ops true).wp P Q a w:=
 wp_region_any hm (any_of_un _ _ _ _ (h hS))
end Until
end Go.Proofs.YtlcidkiplidamaaGreatDoor
