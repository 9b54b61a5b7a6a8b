/-
  What the laws rest on, part 22: walks of the program's functions and plain laws. Conditions: none but those that each theorem names.
-/
import Derived.Test.YtlcidkiplidamaaGreatDoorR21
set_option linter.unusedSimpArgs false
set_option linter.unusedVariables false
set_option maxRecDepth 100000
set_option maxHeartbeats 4000000
namespace Go.Proofs.YtlcidkiplidamaaGreatDoor
open Go Go.RowKit Lib Go.Maps
theorem WdA.chg {cs:List Nat} {w w':World} {ρ ρ':Nat→Nat} {A:Option Addr} {n cap:Nat} {ws:List ByteArray} (h:WdA w (Un ρ) A n cap ws) (k:Chg cs w ρ w' ρ') (h0:0∉cs):WdA w' (Un ρ') A n cap ws:=
 ⟨h.len,h.le,h.max,fun hn=>by
  obtain⟨b,off,e,hb,ho,hc⟩:=h.hat hn
  have hk:=k.blk b hb (by rw [show ρ b=0 from ho];exact h0)
  exact⟨b,off,e,Nat.lt_of_lt_of_le hb k.size,hk.2.trans ho,fun j s hs=> (World.cell?_of_block (w:=w) (a:=⟨b,off+j,none⟩) hk.1).trans (hc j s hs)⟩⟩
theorem WdA.part {w:World} {ok:Nat→Prop} {b off n cap:Nat} {ws:List ByteArray} (h:WdA w ok (some ⟨b,off,none⟩) n cap ws) (i m:Nat) (hi:i≤m) (hm:m≤n) (A:Option Addr) (hA:i<m→A=some ⟨b,off+i,none⟩):WdA w ok A (m - i) (cap - i) ((ws.take m).drop i):=
 ⟨by rw [List.length_drop,List.length_take, ←h.len];omega,by have:=h.le;omega,by have:=h.max;omega,fun hp=>by
  obtain⟨b',off',e,hb,ho,hc⟩:=h.hat (by omega)
  cases e
  refine⟨b,off+i,hA (by omega),hb,ho,fun j s hs=> ?_⟩
  rw [List.getElem?_drop,List.getElem?_take] at hs
  split at hs
  ·have:=hc (i+j) s hs
   rw [Nat.add_assoc]
   exact this
  ·cases hs⟩
theorem SmW.part {ws:List ByteArray} (h:SmW ws) (i m:Nat):SmW ((ws.take m).drop i):=fun x hx=>h x (List.mem_of_mem_take (List.mem_of_mem_drop hx))
theorem getD_of {ws:List ByteArray} {i:Nat} {s:ByteArray} (h:ws[i]?=some s):ws.getD i ⟨#[]⟩=s:=by rw [List.getD_eq_getElem?_getD,h];rfl
theorem Chg.fresh {cs:List Nat} {w W:World} {ρ ρ':Nat→Nat} (h:Chg cs w ρ W ρ') {p:Addr} (hp:w.heap.size≤p.block) (u:Value):Chg cs w ρ (W.setCell p u) ρ':=
 ⟨h.os,h.tape,h.output,by simpa using h.size,fun g hg hc=> ⟨(Below.heap_setCell _ _ _ _ (by omega)).trans (h.blk g hg hc).1,(h.blk g hg hc).2⟩⟩
theorem Chg.alloc {cs:List Nat} {w W:World} {ρ ρ':Nat→Nat} (h:Chg cs w ρ W ρ') (o:Obj):Chg cs w ρ (W.alloc o) ρ':=
 ⟨h.os,h.tape,h.output,by have:=h.size;simp;omega,fun g hg hc=> ⟨(Below.heap_alloc _ _ _ (by have:=h.size;omega)).trans (h.blk g hg hc).1,(h.blk g hg hc).2⟩⟩
theorem Chg.cell0 {cs:List Nat} {w W:World} {ρ ρ':Nat→Nat} (h:Chg cs w ρ W ρ') (h0:0∉cs) {b:Nat} (hb:b<w.heap.size) (hu:Un ρ b) (o:Nat):W.cell? ⟨b,o,none⟩=w.cell? ⟨b,o,none⟩:=World.cell?_of_block (h.blk b hb (by rw [show ρ b=0 from hu];exact h0)).1
theorem MkC.free {w:World} {ρ:Nat→Nat} {B kb:Nat} {σ:AsK} {V:MkV} (h:MkC w ρ B kb σ V) {p:Addr} (hp:ρ p.block=0) (u:Value):MkC (w.setCell p u) ρ B kb σ V:=
 h.keep (cs:= [0]) ⟨rfl,rfl,rfl,by simp,fun g hg hc=> ⟨Below.heap_setCell _ _ _ _ (by rintro rfl;exact hc (by rw [hp];simp)),rfl⟩⟩ (h.low.mono (by simp)) (by intro c h1 _ hm;simp at hm;omega)
def AsK.fldNo (σ:AsK) (s1 s2:ByteArray) (acc:Nat):AsK:={ ((σ.text s1).2.text s2).2 with c:={ ((σ.text s1).2.text s2).2.c with flds:=σ.c.flds++ [⟨acc,(σ.text s1).1,((σ.text s1).2.text s2).1,0⟩] } }
def AsK.fldYes (σ:AsK) (s1 s2:ByteArray) (acc:Nat) (v:Int):AsK:=
 { ((((σ.text s1).2.text s2).2.number v).2.text constantValueS).2 with c:={ ((((σ.text s1).2.text s2).2.number v).2.text constantValueS).2.c with flds:=σ.c.flds++ [⟨acc,(σ.text s1).1,((σ.text s1).2.text s2).1,(((σ.text s1).2.text s2).2.number v).1⟩] } }
theorem field_no {σ:AsK} {ws:List ByteArray} (h:(decide (4<ws.length)&&(ws.getD (ws.length - 2) ⟨#[]⟩).data.toList== [61])=false):σ.field ws=(aFlags ((ws.take ws.length).drop 3) 0).map fun acc=>σ.fldNo (ws.getD 1 ⟨#[]⟩) (ws.getD 2 ⟨#[]⟩) acc:=by
 unfold AsK.field
 simp only [h,Bool.false_eq_true,if_false]
 cases aFlags ((ws.take ws.length).drop 3) 0<;>rfl
theorem field_yes {σ:AsK} {ws:List ByteArray} (h:(decide (4<ws.length)&&(ws.getD (ws.length - 2) ⟨#[]⟩).data.toList== [61])=true):σ.field ws=(aFlags ((ws.take (ws.length - 2)).drop 3) 0).bind fun acc=> (aDigits (ws.getD (ws.length - 2+1) ⟨#[]⟩).data.toList (-2147483648) 2147483647).map fun v=>σ.fldYes (ws.getD 1 ⟨#[]⟩) (ws.getD 2 ⟨#[]⟩) acc v:=by
 unfold AsK.field
 simp only [h,if_true]
 cases aFlags ((ws.take (ws.length - 2)).drop 3) 0 with
 |none=>rfl
 |some acc=>cases aDigits (ws.getD (ws.length - 2+1) ⟨#[]⟩).data.toList (-2147483648) 2147483647<;>rfl
theorem fpost_cases {w w':World} {n:Nat} {p:Option Nat} {e:Ending} (h:FPost w n p e w'):(p=none∧e= .panicked [{ v:=stopA n 60,recovered:=false }]∧Below w.heap.size w w')∨ ∃acc,p=some acc∧e= .returned (.int .i64 acc)∧Below w.heap.size w w':=by
 cases p with
 |none=>exact .inl ⟨rfl,h.2,h.1⟩
 |some acc=>exact .inr ⟨acc,rfl,h.2,h.1⟩
theorem dpost_cases {w w':World} {n:Nat} {p:Option Int} {e:Ending} (h:DPost w n p e w'):(p=none∧e= .panicked [{ v:=stopA n 60,recovered:=false }]∧Below w.heap.size w w')∨ ∃v,p=some v∧e= .returned (.int .i64 v)∧Below w.heap.size w w':=by
 cases p with
 |none=>exact .inl ⟨rfl,h.2,h.1⟩
 |some v=>exact .inr ⟨v,rfl,h.2,h.1⟩
theorem info_afield:(Tryz.prog.info? 83).map (fun i=> (i.zero,i.size,i.bytes))=some (some (.agg #[.int .i64 0, .int .i64 0, .int .i64 0, .int .i64 0]),4,32):=by kernel_rfl
theorem afield_any (ρ:Nat→Nat) (B kb:Nat) (σ:AsK) (V:MkV) (A:Option Addr) (n cap:Nat) (ws:List ByteArray) (w:World) (h:MkC w ρ B kb σ V) (ho:OpenC w ρ B V.mv σ.m) (hw:WdA w (Un ρ) A n cap ws) (hz:SmW ws) (hn:2<n) (hl:σ.c.pool.length≤999000) (hlf:σ.c.flds.length≤999000):
  Calls Tryz.prog 59 #[.pointer (some ⟨kb,0,none⟩), .slice A n cap] w (LPost [1,2,3,5] w ρ B kb σ.line (σ.field ws)):=by
 have H:=Lib.hid h
 have HO:=Lib.hid ho
 have HW:=Lib.hid hw
 have HZ:=Lib.hid hz
 have HLN:=Lib.hid hw.len
 have hle:=hw.le
 have hmx:=hw.max
 obtain⟨b,off,hA,hb,hub,hc⟩:=hw.hat (by omega)
 subst hA
 have HC:=Lib.hid hc
 have HUB:=Lib.hid hub
 obtain⟨s1,hs1⟩: ∃s,ws[1]?=some s:=⟨_,List.getElem?_eq_getElem (by rw [←hw.len];omega)⟩
 obtain⟨s2,hs2⟩: ∃s,ws[2]?=some s:=⟨_,List.getElem?_eq_getElem (by rw [←hw.len];omega)⟩
 have HS1:=Lib.hid (getD_of hs1)
 have HS2:=Lib.hid (getD_of hs2)
 have z1:=hz s1 (List.mem_of_getElem? hs1)
 have z2:=hz s2 (List.mem_of_getElem? hs2)
 have HW1:=Lib.hid (hc 1 s1 hs1)
 have HW2:=Lib.hid (hc 2 s2 hs2)
 have hB:=h.hB
 have hkl:=h.box.lt
 have hl1:=len_need (k:=⟨1,s1,0,0,0⟩) hl
 have hl2:=len_need (k:=⟨1,s2,0,0,0⟩) hl1.1
 have hl1':(σ.text s1).2.c.pool.length≤999001:=hl1.1
 have hl2':((σ.text s1).2.text s2).2.c.pool.length≤999002:=hl2.1
 clear hw hz h ho hc hs1 hs2 hub hl1 hl2
 obtain⟨vb,hvb⟩: ∃vb,(decide (4<ws.length)&&(ws.getD (ws.length - 2) ⟨#[]⟩).data.toList== [61])=vb:=⟨_,rfl⟩
 rw [←HLN.out] at hvb
 cases vb
 ·have HFD:=Lib.hid (field_no (σ:=σ) (by rw [←HLN.out];exact hvb))
  rw [HS1.out,HS2.out, ←HLN.out] at HFD
  by_cases h4:4<n
  ·obtain⟨q,hq⟩: ∃q,ws[n - 2]?=some q:=⟨_,List.getElem?_eq_getElem (by rw [←HLN.out];omega)⟩
   have hqe:(q.toList== [61])=false:=by
    rw [decide_eq_true (by omega),Bool.true_and,getD_of hq] at hvb
    rw [ByteArray.toList_eq]
    exact hvb
   have cq:=HC.out (n - 2) q hq
   have hn2:(n:Int) - 2=((n - 2:Nat):Int):=by omega
   clear hq hvb
   have HP:=Lib.hid (HW.out.part 3 n (by omega) (by omega) _ (fun _=>rfl))
   go_enter Tryz.func59,Tryz.ntmps59
   go_wp2_with (go_at_call 58;refine stop_here ?_)
   refine go_on ?_
   refine(aflags_any kb _ σ.line _ _ _ _ _ _ H.out.box rfl (HP.out) (HZ.out.part 3 n)).mono ?_
   intro e wq hq
   rcases fpost_cases hq with⟨hp,rfl,hbq⟩ | ⟨acc,hp,rfl,hbq⟩
   ·have HN:=Lib.hid (show σ.field ws=none from HFD.out.trans (by rw [hp] <;>rfl))
    have BB:=Lib.hid (hbq.mono hB)
    clear hp hbq hq
    go_wp2_with fail
    exact(show _∧_ from⟨rfl,lpost_none HN.out BB.out⟩)
   ·have HFD2:=Lib.hid (show σ.field ws=some (σ.fldNo s1 s2 acc) from HFD.out.trans (by rw [hp] <;>rfl))
    have G0:=Lib.hid (Chg.of_below (cs:= [1,2,3]) (ρ:=ρ) hbq)
    have M0:=Lib.hid (H.out.below hbq)
    have hzq:=hbq.size
    clear hp hbq hq
    have RF0:=Lib.hid (M0.out.low.fresh (Nat.le_refl wq.heap.size))
    obtain⟨y1,y2,y3,y4,y5,y6,y7,y8,y9,y10,y11,y12⟩:=far b wq.heap.size (by omega)
    obtain⟨k1,k2,k3,k4,k5,k6,k7,k8,k9,k10,k11,k12⟩:=far kb wq.heap.size (by omega)
    have c1:=(G0.out.cell0 (by decide) hb HUB.out (off+1)).trans HW1.out
    go_wp2_with (go_at_call 128;refine stop_here ?_)
    refine go_on ?_
    refine(atext_any ρ B kb σ V s1 _ (M0.out.below ((Below.refl _ _).alloc (Nat.le_refl _) _)) z1 (by omega)).mono ?_
    rintro e w2 ⟨rfl,ρ1,pv1,hm,hg⟩
    have M1:=Lib.hid hm
    have G1:=Lib.hid ((G0.out.alloc _).trans hg)
    have XF1:=Lib.hid (hg.bx (bx_new wq [.int .i64 acc, .int .i64 0, .int .i64 0, .int .i64 0] 83) (by rw [RF0.out];decide))
    have RF1:=Lib.hid ((hg.blk wq.heap.size (by simp) (by rw [RF0.out];decide)).2.trans RF0.out)
    have hz2:=hg.size
    simp only [World.size_alloc] at hz2
    clear hm hg c1
    have f1:=XF1.out.cell 1 rfl
    have zf1:=XF1.out.frozen 1
    have c2:=(G1.out.cell0 (by decide) hb HUB.out (off+2)).trans HW2.out
    go_wp2_with (go_at_call 128;refine stop_here ?_)
    refine go_on ?_
    refine(atext_any ρ1 B kb (σ.text s1).2 { V with pv:=pv1 } s2 _ (M1.out.free RF1.out _) z2 (by omega)).mono ?_
    rintro e w3 ⟨rfl,ρ2,pv2,hm,hg⟩
    have M2:=Lib.hid hm
    have G2:=Lib.hid ((G1.out.fresh (p:=⟨wq.heap.size,1,none⟩) hzq _).trans hg)
    have XF2:=Lib.hid (hg.bx (XF1.out.set 1 _) (by rw [RF1.out];decide))
    have RF2:=Lib.hid ((hg.blk wq.heap.size (by simp;omega) (by rw [RF1.out];decide)).2.trans RF1.out)
    have hz3:=hg.size
    simp only [World.size_setCell] at hz3
    clear hm hg c2 f1 zf1
    have f2:=XF2.out.cell 2 rfl
    have zf2:=XF2.out.frozen 2
    go_wp2_with fail
    obtain⟨w4,hw4⟩: ∃W,W=w3.setCell ⟨wq.heap.size,2,none⟩ (.int .i64 ((σ.text s1).2.text s2).1):=⟨_,rfl⟩
    rw [←hw4]
    have M3:=Lib.hid (show MkC w4 ρ2 B kb ((σ.text s1).2.text s2).2 { V with pv:=pv2 } by rw [hw4];exact M2.out.free RF2.out _)
    have G3:=Lib.hid (show Chg [1,2,3] w ρ w4 ρ2 by rw [hw4];exact G2.out.fresh hzq _)
    have XF3:=Lib.hid (show Bx w4 wq.heap.size ((([Value.int .i64 acc, .int .i64 0, .int .i64 0, .int .i64 0].set 1 (.int .i64 (σ.text s1).1)).set 2 (.int .i64 ((σ.text s1).2.text s2).1))) 83 by rw [hw4];exact XF2.out.set 2 _)
    have hz4:w3.heap.size≤w4.heap.size:=by rw [hw4];simp
    clear hw4 f2 zf2
    have g0:=XF3.out.cell 0 rfl
    have g1:=XF3.out.cell 1 rfl
    have g2:=XF3.out.cell 2 rfl
    have g3:=XF3.out.cell 3 rfl
    have c7:=M3.out.box.cell 7 rfl
    have z7:=M3.out.box.frozen 7
    have hkw:=M3.out.box.lt
    have hBw:=M3.out.hB
    obtain⟨v1,v2,v3,v4,v5,v6,v7,v8,v9,v10,v11,v12⟩:=far kb w4.heap.size hkw
    obtain⟨t1,t2,t3,t4,t5,t6,t7,t8,t9,t10,t11,t12⟩:=far wq.heap.size w4.heap.size (by omega)
    have hnk:V.fv.ownBlock≠some kb:=fun e=>by have h1:=M3.out.flds.2 _ e;rw [M3.out.kc] at h1;omega
    have hlF:(((σ.text s1).2.text s2).2).c.flds.length=σ.c.flds.length:=rfl
    go_region_law (first
     | (refine step_lies rfl (.tmp 61) (.tmp 63) 25 rfl Tryz.underlying25 info_afield rfl (by omega) B rfl ((own_heap M3.out.flds.1 (fun _ _=>rfl)).alloc _) rfl rfl (cells_new_at _ _ _ _ (by first|rfl|omega| (simp<;>omega))) (by simp [Value.oneCell']) (by omega) (by simp only [maxLen];omega) (by omega) (by first|omega| (simp<;>omega)) ?_
        intro g6 cap6 W' ho hg hb hgg
        have HO6:=Lib.hid ho
        have HG6:=Lib.hid hg
        have X6:=Lib.hid (show Bx W' kb (mkCells (((σ.text s1).2.text s2).2) { V with pv:=pv2 }) 67 from(hg.block kb (by first|omega| (simp;omega)) (fun e=>hnk e.symm)).trans ((Below.heap_alloc _ _ _ (by first|omega| (simp;omega))).trans M3.out.box))
        have c6:=X6.out.cell 7 rfl
        have z6:=X6.out.frozen 7
        have HGG:=Lib.hid hgg
        clear ho hg hb hgg))
    all_goals
     go_wp2_with fail
     have hg6:V.fv.ownBlock=some g6∨w4.heap.size≤g6:=by
      rcases HGG.out with e|e
      ·exact .inl e
      ·right
       first|omega| (simp at e;omega) | (trace_state;omega)
     have hgk:g6≠kb:=by
      rintro rfl
      rcases hg6 with e|e
      ·exact hnk e
      ·omega
     have hz6':w4.heap.size+1≤W'.heap.size:=Nat.le_trans (Nat.le_of_eq (World.size_alloc w4 _).symm) HG6.out.size
     obtain⟨ρ',fv',hM,hC⟩:=M3.out.addF (x:=⟨acc,(σ.text s1).1,((σ.text s1).2.text s2).1,0⟩) (w':=W'.setCell ⟨kb,7,none⟩ (.slice (some ⟨g6,0,none⟩) (σ.c.flds.length+1) cap6)) (g:=g6) (cap:=cap6) HG6.out.os HG6.out.tape HG6.out.output (by first|omega| (simp;omega))
      (fun q hq h1 h2=> (Below.heap_setCell _ _ _ _ h1).trans ((HG6.out.block q (by first|omega| (simp;omega)) (fun e=>h2 e.symm)).trans (Below.heap_alloc _ _ _ (by first|omega| (simp;omega)))))
      (X6.out.set 7 _) (own_set HO6.out hgk _) hg6
     refine⟨rfl, .tuple #[],by simp [results,Tryz.results59], ?_⟩
     exact lpost_some (V':={ V with pv:=pv2,fv:=fv' }) HFD2.out rfl (show MkC _ ρ' B kb (σ.fldNo s1 s2 acc) _ from hM) (HO.out.keep (G3.out.mono (by simp) |>.trans (hC.mono (by simp))) (cs:= [1,2,3,5]) (by intro c h1 h2 hm;simp at hm;omega)) ((G3.out.mono (by simp)).trans (hC.mono (by simp)))
  ·have h4': ¬(4:Int) < (n:Int):=by omega
   clear hvb
   rcases Nat.lt_or_ge 3 cap with h3|h3
   ·have HP:=Lib.hid (HW.out.part 3 n (by omega) (by omega) _ (fun _=>rfl))
    go_enter Tryz.func59,Tryz.ntmps59
    go_wp2_with (go_at_call 58;refine stop_here ?_)
    refine go_on ?_
    refine(aflags_any kb _ σ.line _ _ _ _ _ _ H.out.box rfl (HP.out) (HZ.out.part 3 n)).mono ?_
    intro e wq hq
    rcases fpost_cases hq with⟨hp,rfl,hbq⟩ | ⟨acc,hp,rfl,hbq⟩
    ·have HN:=Lib.hid (show σ.field ws=none from HFD.out.trans (by rw [hp] <;>rfl))
     have BB:=Lib.hid (hbq.mono hB)
     clear hp hbq hq
     go_wp2_with fail
     exact(show _∧_ from⟨rfl,lpost_none HN.out BB.out⟩)
    ·have HFD2:=Lib.hid (show σ.field ws=some (σ.fldNo s1 s2 acc) from HFD.out.trans (by rw [hp] <;>rfl))
     have G0:=Lib.hid (Chg.of_below (cs:= [1,2,3]) (ρ:=ρ) hbq)
     have M0:=Lib.hid (H.out.below hbq)
     have hzq:=hbq.size
     clear hp hbq hq
     have RF0:=Lib.hid (M0.out.low.fresh (Nat.le_refl wq.heap.size))
     obtain⟨y1,y2,y3,y4,y5,y6,y7,y8,y9,y10,y11,y12⟩:=far b wq.heap.size (by omega)
     obtain⟨k1,k2,k3,k4,k5,k6,k7,k8,k9,k10,k11,k12⟩:=far kb wq.heap.size (by omega)
     have c1:=(G0.out.cell0 (by decide) hb HUB.out (off+1)).trans HW1.out
     go_wp2_with (go_at_call 128;refine stop_here ?_)
     refine go_on ?_
     refine(atext_any ρ B kb σ V s1 _ (M0.out.below ((Below.refl _ _).alloc (Nat.le_refl _) _)) z1 (by omega)).mono ?_
     rintro e w2 ⟨rfl,ρ1,pv1,hm,hg⟩
     have M1:=Lib.hid hm
     have G1:=Lib.hid ((G0.out.alloc _).trans hg)
     have XF1:=Lib.hid (hg.bx (bx_new wq [.int .i64 acc, .int .i64 0, .int .i64 0, .int .i64 0] 83) (by rw [RF0.out];decide))
     have RF1:=Lib.hid ((hg.blk wq.heap.size (by simp) (by rw [RF0.out];decide)).2.trans RF0.out)
     have hz2:=hg.size
     simp only [World.size_alloc] at hz2
     clear hm hg c1
     have f1:=XF1.out.cell 1 rfl
     have zf1:=XF1.out.frozen 1
     have c2:=(G1.out.cell0 (by decide) hb HUB.out (off+2)).trans HW2.out
     go_wp2_with (go_at_call 128;refine stop_here ?_)
     refine go_on ?_
     refine(atext_any ρ1 B kb (σ.text s1).2 { V with pv:=pv1 } s2 _ (M1.out.free RF1.out _) z2 (by omega)).mono ?_
     rintro e w3 ⟨rfl,ρ2,pv2,hm,hg⟩
     have M2:=Lib.hid hm
     have G2:=Lib.hid ((G1.out.fresh (p:=⟨wq.heap.size,1,none⟩) hzq _).trans hg)
     have XF2:=Lib.hid (hg.bx (XF1.out.set 1 _) (by rw [RF1.out];decide))
     have RF2:=Lib.hid ((hg.blk wq.heap.size (by simp;omega) (by rw [RF1.out];decide)).2.trans RF1.out)
     have hz3:=hg.size
     simp only [World.size_setCell] at hz3
     clear hm hg c2 f1 zf1
     have f2:=XF2.out.cell 2 rfl
     have zf2:=XF2.out.frozen 2
     go_wp2_with fail
     obtain⟨w4,hw4⟩: ∃W,W=w3.setCell ⟨wq.heap.size,2,none⟩ (.int .i64 ((σ.text s1).2.text s2).1):=⟨_,rfl⟩
     rw [←hw4]
     have M3:=Lib.hid (show MkC w4 ρ2 B kb ((σ.text s1).2.text s2).2 { V with pv:=pv2 } by rw [hw4];exact M2.out.free RF2.out _)
     have G3:=Lib.hid (show Chg [1,2,3] w ρ w4 ρ2 by rw [hw4];exact G2.out.fresh hzq _)
     have XF3:=Lib.hid (show Bx w4 wq.heap.size ((([Value.int .i64 acc, .int .i64 0, .int .i64 0, .int .i64 0].set 1 (.int .i64 (σ.text s1).1)).set 2 (.int .i64 ((σ.text s1).2.text s2).1))) 83 by rw [hw4];exact XF2.out.set 2 _)
     have hz4:w3.heap.size≤w4.heap.size:=by rw [hw4];simp
     clear hw4 f2 zf2
     have g0:=XF3.out.cell 0 rfl
     have g1:=XF3.out.cell 1 rfl
     have g2:=XF3.out.cell 2 rfl
     have g3:=XF3.out.cell 3 rfl
     have c7:=M3.out.box.cell 7 rfl
     have z7:=M3.out.box.frozen 7
     have hkw:=M3.out.box.lt
     have hBw:=M3.out.hB
     obtain⟨v1,v2,v3,v4,v5,v6,v7,v8,v9,v10,v11,v12⟩:=far kb w4.heap.size hkw
     obtain⟨t1,t2,t3,t4,t5,t6,t7,t8,t9,t10,t11,t12⟩:=far wq.heap.size w4.heap.size (by omega)
     have hnk:V.fv.ownBlock≠some kb:=fun e=>by have h1:=M3.out.flds.2 _ e;rw [M3.out.kc] at h1;omega
     have hlF:(((σ.text s1).2.text s2).2).c.flds.length=σ.c.flds.length:=rfl
     go_region_law (first
      | (refine step_lies rfl (.tmp 61) (.tmp 63) 25 rfl Tryz.underlying25 info_afield rfl (by omega) B rfl ((own_heap M3.out.flds.1 (fun _ _=>rfl)).alloc _) rfl rfl (cells_new_at _ _ _ _ (by first|rfl|omega| (simp<;>omega))) (by simp [Value.oneCell']) (by omega) (by simp only [maxLen];omega) (by omega) (by first|omega| (simp<;>omega)) ?_
         intro g6 cap6 W' ho hg hb hgg
         have HO6:=Lib.hid ho
         have HG6:=Lib.hid hg
         have X6:=Lib.hid (show Bx W' kb (mkCells (((σ.text s1).2.text s2).2) { V with pv:=pv2 }) 67 from(hg.block kb (by first|omega| (simp;omega)) (fun e=>hnk e.symm)).trans ((Below.heap_alloc _ _ _ (by first|omega| (simp;omega))).trans M3.out.box))
         have c6:=X6.out.cell 7 rfl
         have z6:=X6.out.frozen 7
         have HGG:=Lib.hid hgg
         clear ho hg hb hgg))
     all_goals
      go_wp2_with fail
      have hg6:V.fv.ownBlock=some g6∨w4.heap.size≤g6:=by
       rcases HGG.out with e|e
       ·exact .inl e
       ·right
        first|omega| (simp at e;omega) | (trace_state;omega)
      have hgk:g6≠kb:=by
       rintro rfl
       rcases hg6 with e|e
       ·exact hnk e
       ·omega
      have hz6':w4.heap.size+1≤W'.heap.size:=Nat.le_trans (Nat.le_of_eq (World.size_alloc w4 _).symm) HG6.out.size
      obtain⟨ρ',fv',hM,hC⟩:=M3.out.addF (x:=⟨acc,(σ.text s1).1,((σ.text s1).2.text s2).1,0⟩) (w':=W'.setCell ⟨kb,7,none⟩ (.slice (some ⟨g6,0,none⟩) (σ.c.flds.length+1) cap6)) (g:=g6) (cap:=cap6) HG6.out.os HG6.out.tape HG6.out.output (by first|omega| (simp;omega))
       (fun q hq h1 h2=> (Below.heap_setCell _ _ _ _ h1).trans ((HG6.out.block q (by first|omega| (simp;omega)) (fun e=>h2 e.symm)).trans (Below.heap_alloc _ _ _ (by first|omega| (simp;omega)))))
       (X6.out.set 7 _) (own_set HO6.out hgk _) hg6
      refine⟨rfl, .tuple #[],by simp [results,Tryz.results59], ?_⟩
      exact lpost_some (V':={ V with pv:=pv2,fv:=fv' }) HFD2.out rfl (show MkC _ ρ' B kb (σ.fldNo s1 s2 acc) _ from hM) (HO.out.keep (G3.out.mono (by simp) |>.trans (hC.mono (by simp))) (cs:= [1,2,3,5]) (by intro c h1 h2 hm;simp at hm;omega)) ((G3.out.mono (by simp)).trans (hC.mono (by simp)))
   ·obtain rfl:cap=3:=by omega
    obtain rfl:n=3:=by omega
    go_enter Tryz.func59,Tryz.ntmps59
    go_wp2_with (go_at_call 58;refine stop_here ?_)
    refine go_on ?_
    refine(aflags_any kb _ σ.line _ _ _ _ _ _ H.out.box rfl (HW.out.part 3 3 (by omega) (by omega) _ (fun h=>absurd h (by omega))) (HZ.out.part 3 3)).mono ?_
    intro e wq hq
    rcases fpost_cases hq with⟨hp,rfl,hbq⟩ | ⟨acc,hp,rfl,hbq⟩
    ·have HN:=Lib.hid (show σ.field ws=none from HFD.out.trans (by rw [hp] <;>rfl))
     have BB:=Lib.hid (hbq.mono hB)
     clear hp hbq hq
     go_wp2_with fail
     exact(show _∧_ from⟨rfl,lpost_none HN.out BB.out⟩)
    ·have HFD2:=Lib.hid (show σ.field ws=some (σ.fldNo s1 s2 acc) from HFD.out.trans (by rw [hp] <;>rfl))
     have G0:=Lib.hid (Chg.of_below (cs:= [1,2,3]) (ρ:=ρ) hbq)
     have M0:=Lib.hid (H.out.below hbq)
     have hzq:=hbq.size
     clear hp hbq hq
     have RF0:=Lib.hid (M0.out.low.fresh (Nat.le_refl wq.heap.size))
     obtain⟨y1,y2,y3,y4,y5,y6,y7,y8,y9,y10,y11,y12⟩:=far b wq.heap.size (by omega)
     obtain⟨k1,k2,k3,k4,k5,k6,k7,k8,k9,k10,k11,k12⟩:=far kb wq.heap.size (by omega)
     have c1:=(G0.out.cell0 (by decide) hb HUB.out (off+1)).trans HW1.out
     go_wp2_with (go_at_call 128;refine stop_here ?_)
     refine go_on ?_
     refine(atext_any ρ B kb σ V s1 _ (M0.out.below ((Below.refl _ _).alloc (Nat.le_refl _) _)) z1 (by omega)).mono ?_
     rintro e w2 ⟨rfl,ρ1,pv1,hm,hg⟩
     have M1:=Lib.hid hm
     have G1:=Lib.hid ((G0.out.alloc _).trans hg)
     have XF1:=Lib.hid (hg.bx (bx_new wq [.int .i64 acc, .int .i64 0, .int .i64 0, .int .i64 0] 83) (by rw [RF0.out];decide))
     have RF1:=Lib.hid ((hg.blk wq.heap.size (by simp) (by rw [RF0.out];decide)).2.trans RF0.out)
     have hz2:=hg.size
     simp only [World.size_alloc] at hz2
     clear hm hg c1
     have f1:=XF1.out.cell 1 rfl
     have zf1:=XF1.out.frozen 1
     have c2:=(G1.out.cell0 (by decide) hb HUB.out (off+2)).trans HW2.out
     go_wp2_with (go_at_call 128;refine stop_here ?_)
     refine go_on ?_
     refine(atext_any ρ1 B kb (σ.text s1).2 { V with pv:=pv1 } s2 _ (M1.out.free RF1.out _) z2 (by omega)).mono ?_
     rintro e w3 ⟨rfl,ρ2,pv2,hm,hg⟩
     have M2:=Lib.hid hm
     have G2:=Lib.hid ((G1.out.fresh (p:=⟨wq.heap.size,1,none⟩) hzq _).trans hg)
     have XF2:=Lib.hid (hg.bx (XF1.out.set 1 _) (by rw [RF1.out];decide))
     have RF2:=Lib.hid ((hg.blk wq.heap.size (by simp;omega) (by rw [RF1.out];decide)).2.trans RF1.out)
     have hz3:=hg.size
     simp only [World.size_setCell] at hz3
     clear hm hg c2 f1 zf1
     have f2:=XF2.out.cell 2 rfl
     have zf2:=XF2.out.frozen 2
     go_wp2_with fail
     obtain⟨w4,hw4⟩: ∃W,W=w3.setCell ⟨wq.heap.size,2,none⟩ (.int .i64 ((σ.text s1).2.text s2).1):=⟨_,rfl⟩
     rw [←hw4]
     have M3:=Lib.hid (show MkC w4 ρ2 B kb ((σ.text s1).2.text s2).2 { V with pv:=pv2 } by rw [hw4];exact M2.out.free RF2.out _)
     have G3:=Lib.hid (show Chg [1,2,3] w ρ w4 ρ2 by rw [hw4];exact G2.out.fresh hzq _)
     have XF3:=Lib.hid (show Bx w4 wq.heap.size ((([Value.int .i64 acc, .int .i64 0, .int .i64 0, .int .i64 0].set 1 (.int .i64 (σ.text s1).1)).set 2 (.int .i64 ((σ.text s1).2.text s2).1))) 83 by rw [hw4];exact XF2.out.set 2 _)
     have hz4:w3.heap.size≤w4.heap.size:=by rw [hw4];simp
     clear hw4 f2 zf2
     have g0:=XF3.out.cell 0 rfl
     have g1:=XF3.out.cell 1 rfl
     have g2:=XF3.out.cell 2 rfl
     have g3:=XF3.out.cell 3 rfl
     have c7:=M3.out.box.cell 7 rfl
     have z7:=M3.out.box.frozen 7
     have hkw:=M3.out.box.lt
     have hBw:=M3.out.hB
     obtain⟨v1,v2,v3,v4,v5,v6,v7,v8,v9,v10,v11,v12⟩:=far kb w4.heap.size hkw
     obtain⟨t1,t2,t3,t4,t5,t6,t7,t8,t9,t10,t11,t12⟩:=far wq.heap.size w4.heap.size (by omega)
     have hnk:V.fv.ownBlock≠some kb:=fun e=>by have h1:=M3.out.flds.2 _ e;rw [M3.out.kc] at h1;omega
     have hlF:(((σ.text s1).2.text s2).2).c.flds.length=σ.c.flds.length:=rfl
     go_region_law (first
      | (refine step_lies rfl (.tmp 61) (.tmp 63) 25 rfl Tryz.underlying25 info_afield rfl (by omega) B rfl ((own_heap M3.out.flds.1 (fun _ _=>rfl)).alloc _) rfl rfl (cells_new_at _ _ _ _ (by first|rfl|omega| (simp<;>omega))) (by simp [Value.oneCell']) (by omega) (by simp only [maxLen];omega) (by omega) (by first|omega| (simp<;>omega)) ?_
         intro g6 cap6 W' ho hg hb hgg
         have HO6:=Lib.hid ho
         have HG6:=Lib.hid hg
         have X6:=Lib.hid (show Bx W' kb (mkCells (((σ.text s1).2.text s2).2) { V with pv:=pv2 }) 67 from(hg.block kb (by first|omega| (simp;omega)) (fun e=>hnk e.symm)).trans ((Below.heap_alloc _ _ _ (by first|omega| (simp;omega))).trans M3.out.box))
         have c6:=X6.out.cell 7 rfl
         have z6:=X6.out.frozen 7
         have HGG:=Lib.hid hgg
         clear ho hg hb hgg))
     all_goals
      go_wp2_with fail
      have hg6:V.fv.ownBlock=some g6∨w4.heap.size≤g6:=by
       rcases HGG.out with e|e
       ·exact .inl e
       ·right
        first|omega| (simp at e;omega) | (trace_state;omega)
      have hgk:g6≠kb:=by
       rintro rfl
       rcases hg6 with e|e
       ·exact hnk e
       ·omega
      have hz6':w4.heap.size+1≤W'.heap.size:=Nat.le_trans (Nat.le_of_eq (World.size_alloc w4 _).symm) HG6.out.size
      obtain⟨ρ',fv',hM,hC⟩:=M3.out.addF (x:=⟨acc,(σ.text s1).1,((σ.text s1).2.text s2).1,0⟩) (w':=W'.setCell ⟨kb,7,none⟩ (.slice (some ⟨g6,0,none⟩) (σ.c.flds.length+1) cap6)) (g:=g6) (cap:=cap6) HG6.out.os HG6.out.tape HG6.out.output (by first|omega| (simp;omega))
       (fun q hq h1 h2=> (Below.heap_setCell _ _ _ _ h1).trans ((HG6.out.block q (by first|omega| (simp;omega)) (fun e=>h2 e.symm)).trans (Below.heap_alloc _ _ _ (by first|omega| (simp;omega)))))
       (X6.out.set 7 _) (own_set HO6.out hgk _) hg6
      refine⟨rfl, .tuple #[],by simp [results,Tryz.results59], ?_⟩
      exact lpost_some (V':={ V with pv:=pv2,fv:=fv' }) HFD2.out rfl (show MkC _ ρ' B kb (σ.fldNo s1 s2 acc) _ from hM) (HO.out.keep (G3.out.mono (by simp) |>.trans (hC.mono (by simp))) (cs:= [1,2,3,5]) (by intro c h1 h2 hm;simp at hm;omega)) ((G3.out.mono (by simp)).trans (hC.mono (by simp)))
 ·have HFD:=Lib.hid (field_yes (σ:=σ) (by rw [←HLN.out];exact hvb))
  rw [HS1.out,HS2.out, ←HLN.out] at HFD
  have h4:4<n:=by
   rw [Bool.and_eq_true,decide_eq_true_eq] at hvb
   exact hvb.1
  obtain⟨q,hq⟩: ∃q,ws[n - 2]?=some q:=⟨_,List.getElem?_eq_getElem (by rw [←HLN.out];omega)⟩
  have hqe:(q.toList== [61])=true:=by
   rw [decide_eq_true (by omega),Bool.true_and,getD_of hq] at hvb
   rw [ByteArray.toList_eq]
   exact hvb
  have cq:=HC.out (n - 2) q hq
  have hn2:(n:Int) - 2=((n - 2:Nat):Int):=by omega
  obtain⟨sv,hsv⟩: ∃s,ws[n - 1]?=some s:=⟨_,List.getElem?_eq_getElem (by rw [←HLN.out];omega)⟩
  have HWV:=Lib.hid (HC.out (n - 1) sv hsv)
  have zv:=HZ.out sv (List.mem_of_getElem? hsv)
  have hn1:n - 2+1=n - 1:=by omega
  rw [hn1,getD_of hsv] at HFD
  have hn3:((n - 2:Nat):Int)+1=((n - 1:Nat):Int):=by omega
  clear hq hvb hsv hn1
  have HP:=Lib.hid (HW.out.part 3 (n - 2) (by omega) (by omega) _ (fun _=>rfl))
  go_enter Tryz.func59,Tryz.ntmps59
  go_wp2_with (go_at_call 58;refine stop_here ?_)
  refine go_on ?_
  refine(aflags_any kb _ σ.line _ _ _ _ _ _ H.out.box rfl (HP.out) (HZ.out.part 3 (n - 2))).mono ?_
  intro e wq hq
  rcases fpost_cases hq with⟨hp,rfl,hbq⟩ | ⟨acc,hp,rfl,hbq⟩
  ·have HN:=Lib.hid (show σ.field ws=none from HFD.out.trans (by rw [hp] <;>rfl))
   have BB:=Lib.hid (hbq.mono hB)
   clear hp hbq hq
   go_wp2_with fail
   exact(show _∧_ from⟨rfl,lpost_none HN.out BB.out⟩)
  ·have HFD2:=Lib.hid (show σ.field ws=(aDigits sv.data.toList (-2147483648) 2147483647).map (fun v=>σ.fldYes s1 s2 acc v) from HFD.out.trans (by rw [hp] <;>rfl))
   have G0:=Lib.hid (Chg.of_below (cs:= [1,2,3]) (ρ:=ρ) hbq)
   have M0:=Lib.hid (H.out.below hbq)
   have hzq:=hbq.size
   clear hp hbq hq
   have RF0:=Lib.hid (M0.out.low.fresh (Nat.le_refl wq.heap.size))
   obtain⟨y1,y2,y3,y4,y5,y6,y7,y8,y9,y10,y11,y12⟩:=far b wq.heap.size (by omega)
   obtain⟨k1,k2,k3,k4,k5,k6,k7,k8,k9,k10,k11,k12⟩:=far kb wq.heap.size (by omega)
   have c1:=(G0.out.cell0 (by decide) hb HUB.out (off+1)).trans HW1.out
   have cv:=(G0.out.cell0 (by decide) hb HUB.out (off+(n - 1))).trans HWV.out
   go_wp2_with (go_at_call 53;refine stop_here ?_)
   refine go_on ?_
   refine(adigits_any kb _ σ.line sv _ _ _ (M0.out.below ((Below.refl _ _).alloc (Nat.le_refl _) _)).box rfl zv (by omega)).mono ?_
   intro e wd hq
   rcases dpost_cases hq with⟨hp,rfl,hbd⟩ | ⟨v,hp,rfl,hbd⟩
   ·have HN:=Lib.hid (show σ.field ws=none from HFD2.out.trans (by rw [hp] <;>rfl))
    have BB:=Lib.hid (((G0.out.alloc _).trans (Chg.of_below hbd)).below H.out.low hB (by decide))
    clear hp hbd hq
    go_wp2_with fail
    exact(show _∧_ from⟨rfl,lpost_none HN.out BB.out⟩)
   have HFD3:=Lib.hid (show σ.field ws=some (σ.fldYes s1 s2 acc v) from HFD2.out.trans (by rw [hp] <;>rfl))
   have HV:=Lib.hid (digits_in hp)
   have XF0:=Lib.hid ((hbd.block wq.heap.size (by simp)).trans (bx_new wq [.int .i64 acc, .int .i64 0, .int .i64 0, .int .i64 0] 83))
   have G0:=Lib.hid ((G0.out.alloc (.cells #[.int .i64 acc, .int .i64 0, .int .i64 0, .int .i64 0] 83)).trans (Chg.of_below hbd))
   have M0:=Lib.hid ((M0.out.below ((Below.refl _ _).alloc (Nat.le_refl _) (.cells #[.int .i64 acc, .int .i64 0, .int .i64 0, .int .i64 0] 83))).below hbd)
   have hzd:=hbd.size
   simp only [World.size_alloc] at hzd
   clear hp hbd hq c1 cv
   have c1:=(G0.out.cell0 (by decide) hb HUB.out (off+1)).trans HW1.out
   go_wp2_with (go_at_call 128;refine stop_here ?_)
   refine go_on ?_
   refine(atext_any ρ B kb σ V s1 _ M0.out z1 (by omega)).mono ?_
   rintro e w2 ⟨rfl,ρ1,pv1,hm,hg⟩
   have M1:=Lib.hid hm
   have G1:=Lib.hid (G0.out.trans hg)
   have XF1:=Lib.hid (hg.bx (show Bx wd wq.heap.size [.int .i64 acc, .int .i64 0, .int .i64 0, .int .i64 0] 83 from XF0.out) (by rw [RF0.out];decide))
   have RF1:=Lib.hid ((hg.blk wq.heap.size (by omega) (by rw [RF0.out];decide)).2.trans RF0.out)
   have hz2:=hg.size
   clear hm hg c1
   have f1:=XF1.out.cell 1 rfl
   have zf1:=XF1.out.frozen 1
   have c2:=(G1.out.cell0 (by decide) hb HUB.out (off+2)).trans HW2.out
   go_wp2_with (go_at_call 128;refine stop_here ?_)
   refine go_on ?_
   refine(atext_any ρ1 B kb (σ.text s1).2 { V with pv:=pv1 } s2 _ (M1.out.free RF1.out _) z2 (by omega)).mono ?_
   rintro e w3 ⟨rfl,ρ2,pv2,hm,hg⟩
   have M2:=Lib.hid hm
   have G2:=Lib.hid ((G1.out.fresh (p:=⟨wq.heap.size,1,none⟩) hzq _).trans hg)
   have XF2:=Lib.hid (hg.bx (XF1.out.set 1 _) (by rw [RF1.out];decide))
   have RF2:=Lib.hid ((hg.blk wq.heap.size (by simp;omega) (by rw [RF1.out];decide)).2.trans RF1.out)
   have hz3:=hg.size
   simp only [World.size_setCell] at hz3
   clear hm hg c2 f1 zf1
   have f2:=XF2.out.cell 2 rfl
   have zf2:=XF2.out.frozen 2
   go_wp2_with (go_at_call 133;refine stop_here ?_)
   refine go_on ?_
   refine(anumber_any ρ2 B kb ((σ.text s1).2.text s2).2 { V with pv:=pv2 } v _ (M2.out.free RF2.out _) HV.out (by omega)).mono ?_
   rintro e w4 ⟨rfl,ρ3,pv3,hm,hg⟩
   have M3:=Lib.hid hm
   have G3:=Lib.hid ((G2.out.fresh (p:=⟨wq.heap.size,2,none⟩) hzq _).trans hg)
   have XF3:=Lib.hid (hg.bx (XF2.out.set 2 _) (by rw [RF2.out];decide))
   have RF3:=Lib.hid ((hg.blk wq.heap.size (by simp;omega) (by rw [RF2.out];decide)).2.trans RF2.out)
   have hz4:=hg.size
   simp only [World.size_setCell] at hz4
   clear hm hg f2 zf2
   have f3:=XF3.out.cell 3 rfl
   have zf3:=XF3.out.frozen 3
   have hl3:=len_need (k:=⟨3,⟨#[]⟩,v,0,0⟩) hl2'
   have hl3':(((σ.text s1).2.text s2).2.number v).2.c.pool.length≤999003:=hl3.1
   clear hl3
   go_wp2_with (go_at_call 128;refine stop_here ?_)
   refine go_on ?_
   refine(atext_any ρ3 B kb (((σ.text s1).2.text s2).2.number v).2 { V with pv:=pv3 } constantValueS _ (M3.out.free RF3.out _) (by decide) (by omega)).mono ?_
   rintro e w5 ⟨rfl,ρ4,pv4,hm,hg⟩
   have M4:=Lib.hid hm
   have G4:=Lib.hid ((G3.out.fresh (p:=⟨wq.heap.size,3,none⟩) hzq _).trans hg)
   have XF4:=Lib.hid (hg.bx (XF3.out.set 3 _) (by rw [RF3.out];decide))
   have RF4:=Lib.hid ((hg.blk wq.heap.size (by simp;omega) (by rw [RF3.out];decide)).2.trans RF3.out)
   have hz5:=hg.size
   simp only [World.size_setCell] at hz5
   clear hm hg f3 zf3
   go_wp2_with fail
   have g0:=XF4.out.cell 0 rfl
   have g1:=XF4.out.cell 1 rfl
   have g2:=XF4.out.cell 2 rfl
   have g3:=XF4.out.cell 3 rfl
   have c7:=M4.out.box.cell 7 rfl
   have z7:=M4.out.box.frozen 7
   have hkw:=M4.out.box.lt
   have hBw:=M4.out.hB
   obtain⟨v1,v2,v3,v4,v5,v6,v7,v8,v9,v10,v11,v12⟩:=far kb w5.heap.size hkw
   obtain⟨t1,t2,t3,t4,t5,t6,t7,t8,t9,t10,t11,t12⟩:=far wq.heap.size w5.heap.size (by omega)
   have hnk:V.fv.ownBlock≠some kb:=fun e=>by have h1:=M4.out.flds.2 _ e;rw [M4.out.kc] at h1;omega
   have hlF:(((((σ.text s1).2.text s2).2.number v).2.text constantValueS).2).c.flds.length=σ.c.flds.length:=rfl
   go_region_law (first
    | (refine step_lies rfl (.tmp 61) (.tmp 63) 25 rfl Tryz.underlying25 info_afield rfl (by omega) B rfl ((own_heap M4.out.flds.1 (fun _ _=>rfl)).alloc _) rfl rfl (cells_new_at _ _ _ _ (by first|rfl|omega| (simp<;>omega))) (by simp [Value.oneCell']) (by omega) (by simp only [maxLen];omega) (by omega) (by first|omega| (simp<;>omega)) ?_
       intro g6 cap6 W' ho hg hb hgg
       have HO6:=Lib.hid ho
       have HG6:=Lib.hid hg
       have X6:=Lib.hid (show Bx W' kb (mkCells (((((σ.text s1).2.text s2).2.number v).2.text constantValueS).2) { V with pv:=pv4 }) 67 from(hg.block kb (by first|omega| (simp;omega)) (fun e=>hnk e.symm)).trans ((Below.heap_alloc _ _ _ (by first|omega| (simp;omega))).trans M4.out.box))
       have c6:=X6.out.cell 7 rfl
       have z6:=X6.out.frozen 7
       have HGG:=Lib.hid hgg
       clear ho hg hb hgg))
   all_goals
    go_wp2_with fail
    have hg6:V.fv.ownBlock=some g6∨w5.heap.size≤g6:=by
     rcases HGG.out with e|e
     ·exact .inl e
     ·right
      first|omega| (simp at e;omega) | (trace_state;omega)
    have hgk:g6≠kb:=by
     rintro rfl
     rcases hg6 with e|e
     ·exact hnk e
     ·omega
    have hz6':w5.heap.size+1≤W'.heap.size:=Nat.le_trans (Nat.le_of_eq (World.size_alloc w5 _).symm) HG6.out.size
    obtain⟨ρ',fv',hM,hC⟩:=M4.out.addF (x:=⟨acc,(σ.text s1).1,((σ.text s1).2.text s2).1,(((σ.text s1).2.text s2).2.number v).1⟩) (w':=W'.setCell ⟨kb,7,none⟩ (.slice (some ⟨g6,0,none⟩) (σ.c.flds.length+1) cap6)) (g:=g6) (cap:=cap6) HG6.out.os HG6.out.tape HG6.out.output (by first|omega| (simp;omega))
     (fun q hq h1 h2=> (Below.heap_setCell _ _ _ _ h1).trans ((HG6.out.block q (by first|omega| (simp;omega)) (fun e=>h2 e.symm)).trans (Below.heap_alloc _ _ _ (by first|omega| (simp;omega)))))
     (X6.out.set 7 _) (own_set HO6.out hgk _) hg6
    refine⟨rfl, .tuple #[],by simp [results,Tryz.results59], ?_⟩
    exact lpost_some (V':={ V with pv:=pv4,fv:=fv' }) HFD3.out rfl (show MkC _ ρ' B kb (σ.fldYes s1 s2 acc v) _ from hM) (HO.out.keep (G4.out.mono (by simp) |>.trans (hC.mono (by simp))) (cs:= [1,2,3,5]) (by intro c h1 h2 hm;simp at hm;omega)) ((G4.out.mono (by simp)).trans (hC.mono (by simp)))
end Go.Proofs.YtlcidkiplidamaaGreatDoor
