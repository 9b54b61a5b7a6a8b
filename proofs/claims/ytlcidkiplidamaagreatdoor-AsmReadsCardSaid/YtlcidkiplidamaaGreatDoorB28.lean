/-
  What the laws rest on, part 28: walks of the program's functions and plain laws. Conditions: none but those that each theorem names.
-/
import Derived.Test.YtlcidkiplidamaaGreatDoorB00
import Derived.Test.YtlcidkiplidamaaGreatDoorB27
set_option linter.unusedSimpArgs false
set_option linter.unusedVariables false
set_option maxRecDepth 100000
set_option maxHeartbeats 4000000
namespace Go.Proofs.YtlcidkiplidamaaGreatDoor
open Go Go.RowKit Lib Go.Maps
theorem RkC.free {w:World} {ρ:Nat→Nat} {B kb:Nat} {σ:AsK} {V:RkV} {t:List Value} (h:RkC w ρ B kb σ V t) {p:Addr} (hp:ρ p.block=0) (u:Value):RkC (w.setCell p u) ρ B kb σ V t:=
 h.keep (cs:= [0]) ⟨rfl,rfl,rfl,by simp,fun g hg hc=> ⟨Below.heap_setCell _ _ _ _ (by rintro rfl;exact hc (by rw [hp];simp)),rfl⟩⟩ (h.low.mono (by simp)) (by intro c h1 _ hm;simp at hm;omega)
def eqO (w:World) (ρ:Nat→Nat) (B:Nat) (t:List Value):Option AsM→Prop
 |none=>True
 |some m=> ∃U,t=aq4 m U∧RtC w ρ B m U
def cqh (cs:List Nat) (w:World) (ρ:Nat→Nat) (B kb:Nat) (p:Option AsK) (e:Ending) (w':World):Prop:=e= .returned (.bool p.isSome)∧match p with
 |some σ'=> ∃(ρ':Nat→Nat) (V':RkV) (t':List Value),RkC w' ρ' B kb σ' V' t'∧eqO w' ρ' B t' σ'.m∧Chg cs w ρ w' ρ'
 |none=>Below B w w'
theorem aqh {cs:List Nat} {w w':World} {ρ:Nat→Nat} {B kb:Nat} {p:Option AsK} (hp:p=none) (hb:Below B w w'):cqh cs w ρ B kb p (.returned (.bool false)) w':=by
 subst hp
 exact⟨rfl,hb⟩
theorem aqs {cs:List Nat} {w w':World} {ρ ρ':Nat→Nat} {B kb:Nat} {p:Option AsK} {σ':AsK} {V':RkV} {t':List Value} (hp:p=some σ') (h1:RkC w' ρ' B kb σ' V' t') (h2:eqO w' ρ' B t' σ'.m) (h3:Chg cs w ρ w' ρ'):cqh cs w ρ B kb p (.returned (.bool true)) w':=by
 subst hp
 exact⟨rfl,ρ',V',t',h1,h2,h3⟩
theorem bqy {w w':World} {p:Option Int} {e:Ending} (h:fq2 w p e w'):(p=none∧ ∃v':Int,e= .returned (.tuple #[.int .i64 v', .bool false])∧Below w.heap.size w w')∨ ∃v,p=some v∧e= .returned (.tuple #[.int .i64 v, .bool true])∧Below w.heap.size w w':=by
 obtain⟨v',h1,h2,h3⟩:=h
 cases p with
 |none=>exact .inl ⟨rfl,v',h1,h3⟩
 |some v=>obtain rfl:=h2 v rfl;exact .inr ⟨_,rfl,h1,h3⟩
theorem cqM {ws:List ByteArray} (h:(aqS ws 0).map (Int.ofNat ·)=none):aqS ws 0=none:=by
 cases hx:aqS ws 0 with
 |none=>rfl
 |some a=>rw [hx] at h;cases h
theorem cqN {ws:List ByteArray} {v:Int} (h:(aqS ws 0).map (Int.ofNat ·)=some v): ∃acc:Nat,aqS ws 0=some acc∧v=acc:=by
 cases hx:aqS ws 0 with
 |none=>rw [hx] at h;cases h
 |some a=>rw [hx] at h;exact⟨a,rfl,(Option.some.inj h).symm⟩
theorem fq3 (ρ:Nat→Nat) (B kb:Nat) (σ:AsK) (V:RkV) (t:List Value) (q:Nat) (hq:3≤q) (w:World) (h:RkC w ρ B kb σ V t) (hl:σ.c.pool.length≤999000):
  Calls Tryz.prog 30 #[.pointer (some ⟨kb,0,none⟩)] w fun e w'=>e= .returned (.tuple #[])∧ ∃(ρ':Nat→Nat) (pv':Value),RkC w' ρ' B kb { σ.object with part:=q } { V with pv:=pv' } t∧Chg [1,3] w ρ w' ρ':=by
 have H:=Hq h
 have hst:bq8 q=3:=by unfold bq8;rw [if_neg (by omega)]
 have c9:=h.box.cell 9 rfl
 have z9:=h.box.frozen 9
 clear h
 by_cases hp:σ.part=1
 ·have HO:=Hq (show σ.object={ (σ.cls bqg).2 with c:={ (σ.cls bqg).2.c with sup:=(σ.cls bqg).1 },part:=2 } by unfold AsK.object;rw [if_pos hp])
  rw [show bq8 σ.part=1 by rw [hp];rfl] at c9
  clear hp z9
  go_enter Tryz.func30,Tryz.ntmps30
  go_wp2_with (go_at_call 64;refine(cq4 ρ B kb σ V t bqg _ H.out (by decide) (by omega)).mono ?_;refine aqa ?_)
  refine aqb ?_
  rintro e w1 ⟨rfl,ρ1,pv1,hm,hg⟩
  have H1:=Hq hm
  have G1:=Hq hg
  have d5:=hm.box.cell 5 rfl
  have z5:=hm.box.frozen 5
  have d9:=hm.box.cell 9 rfl
  have z9:=hm.box.frozen 9
  clear hm hg c9
  go_wp2_with fail
  have H2:=Hq (H1.out.setc 5 (.int .i64 (σ.cls bqg).1) (σ':={ (σ.cls bqg).2 with c:={ (σ.cls bqg).2.c with sup:=(σ.cls bqg).1 } }) (V':={ V with pv:=pv1 }) (t':=t) rfl rfl rfl rfl rfl rfl)
  have H3:=Hq (H2.out.1.setc 9 (.int .i64 3) (σ':={ (σ.cls bqg).2 with c:={ (σ.cls bqg).2.c with sup:=(σ.cls bqg).1 },part:=q }) (V':={ V with pv:=pv1 }) (t':=t) (by simp [aq3,hst]) rfl rfl rfl rfl rfl)
  refine⟨rfl, .tuple #[],by simp [results,Tryz.results30],rfl,ρ1,pv1, ?_, ?_⟩
  ·rw [HO.out]
   exact H3.out.1
  exact G1.out.trans ((H2.out.2.trans H3.out.2).mono (by simp))
 have HO:=Hq (show σ.object=σ by unfold AsK.object;rw [if_neg hp])
 have hp':(bq8 σ.part==1)=false:=by
  rw [beq_eq_false_iff_ne]
  unfold bq8
  split<;>omega
 clear hp
 go_enter Tryz.func30,Tryz.ntmps30
 go_wp2_with fail
 have H3:=Hq (H.out.setc 9 (.int .i64 3) (σ':={ σ with part:=q }) (V':=V) (t':=t) (by simp [aq3,hst]) rfl rfl rfl rfl rfl)
 refine⟨rfl, .tuple #[],by simp [results,Tryz.results30],rfl,ρ,V.pv, ?_,H3.out.2.mono (by simp)⟩
 rw [HO.out]
 exact H3.out.1
structure FrB (w:World) (ρ:Nat→Nat) (g:Nat) (vs:List Value) (ty:TypeId):Prop where
 bx:Bx w g vs ty
 un:ρ g=0
theorem FrB.chg {cs:List Nat} {w w':World} {ρ ρ':Nat→Nat} {g:Nat} {vs:List Value} {ty:TypeId} (h:FrB w ρ g vs ty) (k:Chg cs w ρ w' ρ') (h0:0∉cs):FrB w' ρ' g vs ty:=
 have hb:=k.blk g h.bx.lt (by rw [h.un];exact h0)
 ⟨hb.1.trans h.bx,hb.2.trans h.un⟩
theorem FrB.set {w:World} {ρ:Nat→Nat} {g:Nat} {vs:List Value} {ty:TypeId} (h:FrB w ρ g vs ty) (j:Nat) (u:Value):FrB (w.setCell ⟨g,j,none⟩ u) ρ g (vs.set j u) ty:=⟨h.bx.set j u,h.un⟩
theorem aqO {cs:List Nat} {w W:World} {ρ ρ':Nat→Nat} (h:Chg cs w ρ W ρ') {p:Addr} (hp:w.heap.size≤p.block) (u:Value):Chg cs w ρ (W.setCell p u) ρ':=h.fresh hp u
theorem jq3 (ρ:Nat→Nat) (B kb:Nat) (σ:AsK) (V:RkV) (t:List Value) (A:Option Addr) (n cap:Nat) (ws:List ByteArray) (w:World) (h:RkC w ρ B kb σ V t) (hm:σ.m=none) (hw:WdA w (Un ρ) A n cap ws) (hz:SmW ws) (hl:σ.c.pool.length≤999000) (hlf:σ.c.flds.length≤999000) (hlm:σ.c.mths.length≤999000):
  Calls Tryz.prog 65 #[.pointer (some ⟨kb,0,none⟩), .slice A n cap] w (cqh [1,3,5] w ρ B kb (if 2<n∧σ.c.mths= [] then σ.field ws else none)):=by
 have H:=Hq h
 obtain⟨ms,hms,hmo,hma⟩:=h.mths
 obtain⟨AM,kM,htv⟩:=aqf hmo.1
 have hml:ms.length=σ.c.mths.length:=by rw [←hms,List.length_map]
 rw [hml] at htv
 have c8:=h.box.cell 8 rfl
 simp only [htv] at c8
 have hkl:=h.box.lt
 have hB:=h.hB
 have HM:=Hq hm
 by_cases h2:n<3
 ·have HN:=Hq (show(if 2<n∧σ.c.mths= [] then σ.field ws else none)=none from if_neg (by omega))
  have h2':(n:Int) <3:=by omega
  rw [HN.out]
  clear h hm hw hz hms hmo hma
  go_enter Tryz.func65,Tryz.ntmps65
  go_wp2_with fail
  go_ret
  exact aqh rfl (Below.refl _ _)
 have h2': ¬(n:Int) <3:=by omega
 by_cases h3:0<σ.c.mths.length
 ·have HN:=Hq (show(if 2<n∧σ.c.mths= [] then σ.field ws else none)=none from if_neg (fun h=>by rw [h.2] at h3;simp at h3))
  have h3':(0:Int) < (σ.c.mths.length:Int):=by omega
  rw [HN.out]
  clear h hm hw hz hms hmo hma
  go_enter Tryz.func65,Tryz.ntmps65
  go_wp2_with fail
  go_ret
  exact aqh rfl (Below.refl _ _)
 have h3': ¬(0:Int) < (σ.c.mths.length:Int):=by omega
 rw [if_pos ⟨by omega,List.eq_nil_of_length_eq_zero (by omega)⟩]
 clear hms hmo hma htv hml
 have HW:=Hq hw
 have HZ:=Hq hz
 have HLN:=Hq hw.len
 have hle:=hw.le
 have hmx:=hw.max
 obtain⟨b,off,hA,hb,hub,hc⟩:=hw.hat (by omega)
 subst hA
 have HC:=Hq hc
 have HUB:=Hq hub
 obtain⟨s1,hs1⟩: ∃s,ws[1]?=some s:=⟨_,List.getElem?_eq_getElem (by rw [←hw.len];omega)⟩
 obtain⟨s2,hs2⟩: ∃s,ws[2]?=some s:=⟨_,List.getElem?_eq_getElem (by rw [←hw.len];omega)⟩
 have HS1:=Hq (aqE hs1)
 have HS2:=Hq (aqE hs2)
 have z1:=hz s1 (List.mem_of_getElem? hs1)
 have z2:=hz s2 (List.mem_of_getElem? hs2)
 have HW1:=Hq (hc 1 s1 hs1)
 have HW2:=Hq (hc 2 s2 hs2)
 have hl1:=bqn (k:=⟨1,s1,0,0,0⟩) hl
 have hl2:=bqn (k:=⟨1,s2,0,0,0⟩) hl1.1
 have hl1':(σ.text s1).2.c.pool.length≤999001:=hl1.1
 have hl2':((σ.text s1).2.text s2).2.c.pool.length≤999002:=hl2.1
 have FB0:=Hq (show FrB (w.alloc (.cells #[.int .i64 0, .int .i64 0, .int .i64 0, .int .i64 0] 83)) ρ w.heap.size [.int .i64 0, .int .i64 0, .int .i64 0, .int .i64 0] 83 from⟨aqo w _ _,h.low.fresh (Nat.le_refl _)⟩)
 have K0:=Hq (H.out.below ((Below.refl _ _).alloc (Nat.le_refl _) (.cells #[.int .i64 0, .int .i64 0, .int .i64 0, .int .i64 0] 83)))
 have GG0:=Hq ((Chg.refl [1,3,5] w ρ).alloc (.cells #[.int .i64 0, .int .i64 0, .int .i64 0, .int .i64 0] 83))
 have BL0:=Hq ((Below.refl w.heap.size w).alloc (Nat.le_refl _) (.cells #[.int .i64 0, .int .i64 0, .int .i64 0, .int .i64 0] 83))
 clear hw hz h hm hc hs1 hs2 hub hl1 hl2
 obtain⟨vb,hvb⟩: ∃vb,(decide (4<ws.length)&&(ws.getD (ws.length - 2) ⟨#[]⟩).data.toList== [61])=vb:=⟨_,rfl⟩
 rw [←HLN.out] at hvb
 cases vb
 ·have HFD:=Hq (iq1 (σ:=σ) (by rw [←HLN.out];exact hvb))
  rw [HS1.out,HS2.out, ←HLN.out] at HFD
  by_cases h4:4<n
  ·obtain⟨q,hq⟩: ∃q,ws[n - 2]?=some q:=⟨_,List.getElem?_eq_getElem (by rw [←HLN.out];omega)⟩
   have hqe:(q.toList== [61])=false:=by
    rw [decide_eq_true (by omega),Bool.true_and,aqE hq] at hvb
    rw [ByteArray.toList_eq]
    exact hvb
   have cq:=HC.out (n - 2) q hq
   have hn2:IntKind.i64.wrap ((n:Int) - 2)=((n - 2:Nat):Int):=by rw [IntWalk.i64_in _ (by omega)];omega
   have hn5:(5:Int)≤(n:Int):=by omega
   have hn6:(0:Int)≤((n - 2:Nat):Int):=by omega
   have hn7:((n - 2:Nat):Int) < (n:Int):=by omega
   have hc3:(3:Int)≤(n:Int):=by omega
   clear hq hvb
   go_enter Tryz.func65,Tryz.ntmps65
   go_wp2_with (go_at_call 63;refine aqa ?_)
   refine aqb ?_
   refine(bq9 (Un ρ) _ _ _ _ _ ((HW.out.part 3 n (by omega) (by omega) _ (fun _=>rfl)).chg GG0.out (by decide))).mono ?_
   intro e w1 hq
   rcases bqy hq with⟨hp,v',rfl,hb1⟩ | ⟨vv,hp,rfl,hb1⟩
   ·have HN:=Hq (show σ.field ws=none from HFD.out.trans (by rw [cqM hp] <;>rfl))
    go_wp2_with fail
    go_ret
    exact aqh HN.out ((BL0.out.trans (hb1.mono (by simp))).mono hB)
   obtain⟨acc,hac,rfl⟩:=cqN hp
   have HE:=Hq (show σ.field ws=some (σ.fldNo s1 s2 acc) from HFD.out.trans (by rw [hac] <;>rfl))
   have HK:=Hq (K0.out.below hb1)
   have FB:=Hq (FB0.out.chg (Chg.of_below (cs:= []) hb1) (by simp))
   have GG:=Hq (GG0.out.trans (Chg.of_below (cs:= [1,3,5]) hb1))
   clear hq hp hac hb1 K0 FB0 GG0 HFD
   have K1:=Hq (HK.out.free (p:=⟨w.heap.size,0,none⟩) FB.out.un (.int .i64 acc))
   have F1:=Hq (FB.out.set 0 (.int .i64 acc))
   have GG1:=Hq (aqO GG.out (p:=⟨w.heap.size,0,none⟩) (Nat.le_refl _) (.int .i64 acc))
   have f0:=FB.out.bx.cell 0 rfl
   have y0:=FB.out.bx.frozen 0
   have e1:=GG1.out.cell0 (by decide) hb HUB.out (off+1)
   rw [HW1.out] at e1
   simp only [List.set_cons_zero] at F1
   go_wp2_with (go_at_call 139;refine aqa ?_)
   refine aqb ?_
   refine(bqo ρ B kb σ V t s1 _ K1.out z1 (by omega)).mono ?_
   rintro e w2 ⟨rfl,ρ2,pv2,hm,hg⟩
   have F2:=Hq ((F1.out.chg hg (by decide)).set 1 (.int .i64 (σ.text s1).1))
   have f1:=(F1.out.chg hg (by decide)).bx.cell 1 rfl
   have y1:=(F1.out.chg hg (by decide)).bx.frozen 1
   have K2:=Hq (hm.free (p:=⟨w.heap.size,1,none⟩) (F1.out.chg hg (by decide)).un (.int .i64 (σ.text s1).1))
   have GG2:=Hq (aqO (GG1.out.trans (hg.mono (by simp))) (p:=⟨w.heap.size,1,none⟩) (Nat.le_refl _) (.int .i64 (σ.text s1).1))
   have e2:=GG2.out.cell0 (by decide) hb HUB.out (off+2)
   rw [HW2.out] at e2
   simp only [List.set_cons_succ,List.set_cons_zero] at F2
   clear hm hg K1 F1 f0 y0 e1
   go_wp2_with (go_at_call 139;refine aqa ?_)
   refine aqb ?_
   refine(bqo ρ2 B kb (σ.text s1).2 { V with pv:=pv2 } t s2 _ K2.out z2 (by omega)).mono ?_
   rintro e w3 ⟨rfl,ρ3,pv3,hm,hg⟩
   have F3:=Hq ((F2.out.chg hg (by decide)).set 2 (.int .i64 ((σ.text s1).2.text s2).1))
   have f2:=(F2.out.chg hg (by decide)).bx.cell 2 rfl
   have y2:=(F2.out.chg hg (by decide)).bx.frozen 2
   have K3:=Hq (hm.free (p:=⟨w.heap.size,2,none⟩) (F2.out.chg hg (by decide)).un (.int .i64 ((σ.text s1).2.text s2).1))
   have GG3:=Hq (aqO (GG2.out.trans (hg.mono (by simp))) (p:=⟨w.heap.size,2,none⟩) (Nat.le_refl _) (.int .i64 ((σ.text s1).2.text s2).1))
   simp only [List.set_cons_succ,List.set_cons_zero] at F3
   clear hm hg K2 F2 f1 y1 e2
   have HR:=K3
   go_wp2_with fail
   obtain⟨w5,hw5⟩: ∃W,W=w3.setCell ⟨w.heap.size,2,none⟩ (.int .i64 ((σ.text s1).2.text s2).1):=⟨_,rfl⟩
   rw [←hw5] at HR F3 GG3⊢
   have F5:=F3
   have GG5:=GG3
   obtain⟨ρ5,hρ5⟩: ∃r,r=ρ3:=⟨_,rfl⟩
   rw [←hρ5] at HR F5 GG5
   obtain⟨pv5,hpv5⟩: ∃p,p=pv3:=⟨_,rfl⟩
   rw [←hpv5] at HR
   clear hw5 hρ5 hpv5 K3 f2 y2
   obtain⟨σ5,hσ5⟩: ∃s,s=((σ.text s1).2.text s2).2:=⟨_,rfl⟩
   rw [←hσ5] at HR
   have hf5:σ5.c.flds.length≤999000:=by rw [hσ5];exact hlf
   have Hσ:=Hq hσ5
   clear hσ5
   have HO:=Hq HR.out.flds.1
   obtain⟨AF,kF,hfv⟩:=aqf HO.out
   have c7:=HR.out.box.cell 7 rfl
   have z7:=HR.out.box.frozen 7
   simp only at hfv c7
   rw [hfv] at HO c7
   have hBw:=HR.out.hB
   have hkr:kb<w5.heap.size:=HR.out.box.lt
   have hnk:(Value.slice AF σ5.c.flds.length kF).ownBlock≠some kb:=fun e=>by
    have h1:=HR.out.flds.2 kb (by simp only;rw [hfv];exact e)
    rw [HR.out.kc] at h1
    omega
   have g0:=F5.out.bx.cell 0 rfl
   have g1:=F5.out.bx.cell 1 rfl
   have g2:=F5.out.bx.cell 2 rfl
   have g3:=F5.out.bx.cell 3 rfl
   go_region_law (first
    | (refine aqt rfl (.tmp 88) (.tmp 90) 25 rfl Tryz.underlying25 bqS rfl (by omega) B rfl ((aqp HO.out (fun _ _=>rfl)).alloc _) rfl rfl (aqd _ _ _ _ (by first|rfl|omega| (simp<;>omega))) (by simp [Value.oneCell']) (by omega) (by simp only [maxLen];omega) (by omega) (by first|rfl|omega| (simp<;>omega)) ?_
       intro g6 cap6 W' ho hg hb hgg
       have HO6:=Hq ho
       have HG6:=Hq hg
       have X6:=Hq (show Bx W' kb (aq3 σ5 { V with pv:=pv5 }++t) 80 from(hg.block kb (by first|omega| (simp;omega)) (fun e=>hnk e.symm)).trans ((Below.heap_alloc _ _ _ (by first|omega| (simp;omega))).trans HR.out.box))
       have c6:=X6.out.cell 7 rfl
       have z6:=X6.out.frozen 7
       have HGG:=Hq hgg
       clear ho hg hb hgg))
   all_goals
    go_wp2_with fail
    go_ret
    have hz6:=HG6.out.size
    try simp only [World.size_alloc] at hz6
    have hzw:w5.heap.size+1≤W'.heap.size:=by first|exact hz6|exact Nat.le_trans (Nat.le_of_eq (World.size_alloc _ _).symm) hz6
    have hnb: ∀q:Nat,V.fv.ownBlock≠some q→some q≠(Value.slice AF σ5.c.flds.length kF).ownBlock:=fun q h e=>h (by rw [hfv];exact e.symm)
    have hgv:V.fv.ownBlock=some g6∨w5.heap.size≤g6:=by
     rcases HGG.out with e|e
     ·exact .inl (by rw [hfv];exact e)
     right
     first|omega| (simp at e;omega)
    have hgk:g6≠kb:=by
     rintro rfl
     rcases hgv with e|e
     ·exact absurd ((HR.out.flds.2 _ e).symm.trans HR.out.kc) (by decide)
     omega
    obtain⟨ρ',fv',hM,hC⟩:=HR.out.addF (x:=⟨acc,(σ.text s1).1,((σ.text s1).2.text s2).1,0⟩) (w':=W'.setCell ⟨kb,7,none⟩ (.slice (some ⟨g6,0,none⟩) (σ5.c.flds.length+1) cap6)) (g:=g6) (cap:=cap6) HG6.out.os HG6.out.tape HG6.out.output (by simp;omega)
     (fun q hq h1 h2=> (Below.heap_setCell _ _ _ _ h1).trans ((HG6.out.block q (by first|omega| (simp;omega)) (hnb q h2)).trans (Below.heap_alloc _ _ _ hq))) (X6.out.set 7 _) (aqY HO6.out hgk _) hgv
    refine aqs (V':={ V with pv:=pv5,fv:=fv' }) (t':=t) HE.out (show RkC _ ρ' B kb (σ.fldNo s1 s2 acc) _ t from ?_) ?_ (GG5.out.trans (hC.mono (by simp)))
    ·have hs:=Hσ.out
     subst hs
     exact hM
    show eqO _ _ _ _ σ.m
    rw [HM.out]
    trivial
  have hvb2:=True.intro
  have hn5: ¬(5:Int)≤(n:Int):=by omega
  have hc3:(3:Int)≤(n:Int):=by omega
  clear hvb
  by_cases hcap:3<cap
  ·have hcap':(3:Int) < (cap:Int):=by omega
   go_enter Tryz.func65,Tryz.ntmps65
   go_wp2_with (go_at_call 63;refine aqa ?_)
   refine aqb ?_
   refine(bq9 (Un ρ) _ _ _ _ _ ((HW.out.part 3 n (by omega) (by omega) _ (fun _=>rfl)).chg GG0.out (by decide))).mono ?_
   intro e w1 hq
   rcases bqy hq with⟨hp,v',rfl,hb1⟩ | ⟨vv,hp,rfl,hb1⟩
   ·have HN:=Hq (show σ.field ws=none from HFD.out.trans (by rw [cqM hp] <;>rfl))
    go_wp2_with fail
    go_ret
    exact aqh HN.out ((BL0.out.trans (hb1.mono (by simp))).mono hB)
   obtain⟨acc,hac,rfl⟩:=cqN hp
   have HE:=Hq (show σ.field ws=some (σ.fldNo s1 s2 acc) from HFD.out.trans (by rw [hac] <;>rfl))
   have HK:=Hq (K0.out.below hb1)
   have FB:=Hq (FB0.out.chg (Chg.of_below (cs:= []) hb1) (by simp))
   have GG:=Hq (GG0.out.trans (Chg.of_below (cs:= [1,3,5]) hb1))
   clear hq hp hac hb1 K0 FB0 GG0 HFD
   have K1:=Hq (HK.out.free (p:=⟨w.heap.size,0,none⟩) FB.out.un (.int .i64 acc))
   have F1:=Hq (FB.out.set 0 (.int .i64 acc))
   have GG1:=Hq (aqO GG.out (p:=⟨w.heap.size,0,none⟩) (Nat.le_refl _) (.int .i64 acc))
   have f0:=FB.out.bx.cell 0 rfl
   have y0:=FB.out.bx.frozen 0
   have e1:=GG1.out.cell0 (by decide) hb HUB.out (off+1)
   rw [HW1.out] at e1
   simp only [List.set_cons_zero] at F1
   go_wp2_with (go_at_call 139;refine aqa ?_)
   refine aqb ?_
   refine(bqo ρ B kb σ V t s1 _ K1.out z1 (by omega)).mono ?_
   rintro e w2 ⟨rfl,ρ2,pv2,hm,hg⟩
   have F2:=Hq ((F1.out.chg hg (by decide)).set 1 (.int .i64 (σ.text s1).1))
   have f1:=(F1.out.chg hg (by decide)).bx.cell 1 rfl
   have y1:=(F1.out.chg hg (by decide)).bx.frozen 1
   have K2:=Hq (hm.free (p:=⟨w.heap.size,1,none⟩) (F1.out.chg hg (by decide)).un (.int .i64 (σ.text s1).1))
   have GG2:=Hq (aqO (GG1.out.trans (hg.mono (by simp))) (p:=⟨w.heap.size,1,none⟩) (Nat.le_refl _) (.int .i64 (σ.text s1).1))
   have e2:=GG2.out.cell0 (by decide) hb HUB.out (off+2)
   rw [HW2.out] at e2
   simp only [List.set_cons_succ,List.set_cons_zero] at F2
   clear hm hg K1 F1 f0 y0 e1
   go_wp2_with (go_at_call 139;refine aqa ?_)
   refine aqb ?_
   refine(bqo ρ2 B kb (σ.text s1).2 { V with pv:=pv2 } t s2 _ K2.out z2 (by omega)).mono ?_
   rintro e w3 ⟨rfl,ρ3,pv3,hm,hg⟩
   have F3:=Hq ((F2.out.chg hg (by decide)).set 2 (.int .i64 ((σ.text s1).2.text s2).1))
   have f2:=(F2.out.chg hg (by decide)).bx.cell 2 rfl
   have y2:=(F2.out.chg hg (by decide)).bx.frozen 2
   have K3:=Hq (hm.free (p:=⟨w.heap.size,2,none⟩) (F2.out.chg hg (by decide)).un (.int .i64 ((σ.text s1).2.text s2).1))
   have GG3:=Hq (aqO (GG2.out.trans (hg.mono (by simp))) (p:=⟨w.heap.size,2,none⟩) (Nat.le_refl _) (.int .i64 ((σ.text s1).2.text s2).1))
   simp only [List.set_cons_succ,List.set_cons_zero] at F3
   clear hm hg K2 F2 f1 y1 e2
   have HR:=K3
   go_wp2_with fail
   obtain⟨w5,hw5⟩: ∃W,W=w3.setCell ⟨w.heap.size,2,none⟩ (.int .i64 ((σ.text s1).2.text s2).1):=⟨_,rfl⟩
   rw [←hw5] at HR F3 GG3⊢
   have F5:=F3
   have GG5:=GG3
   obtain⟨ρ5,hρ5⟩: ∃r,r=ρ3:=⟨_,rfl⟩
   rw [←hρ5] at HR F5 GG5
   obtain⟨pv5,hpv5⟩: ∃p,p=pv3:=⟨_,rfl⟩
   rw [←hpv5] at HR
   clear hw5 hρ5 hpv5 K3 f2 y2
   obtain⟨σ5,hσ5⟩: ∃s,s=((σ.text s1).2.text s2).2:=⟨_,rfl⟩
   rw [←hσ5] at HR
   have hf5:σ5.c.flds.length≤999000:=by rw [hσ5];exact hlf
   have Hσ:=Hq hσ5
   clear hσ5
   have HO:=Hq HR.out.flds.1
   obtain⟨AF,kF,hfv⟩:=aqf HO.out
   have c7:=HR.out.box.cell 7 rfl
   have z7:=HR.out.box.frozen 7
   simp only at hfv c7
   rw [hfv] at HO c7
   have hBw:=HR.out.hB
   have hkr:kb<w5.heap.size:=HR.out.box.lt
   have hnk:(Value.slice AF σ5.c.flds.length kF).ownBlock≠some kb:=fun e=>by
    have h1:=HR.out.flds.2 kb (by simp only;rw [hfv];exact e)
    rw [HR.out.kc] at h1
    omega
   have g0:=F5.out.bx.cell 0 rfl
   have g1:=F5.out.bx.cell 1 rfl
   have g2:=F5.out.bx.cell 2 rfl
   have g3:=F5.out.bx.cell 3 rfl
   go_region_law (first
    | (refine aqt rfl (.tmp 88) (.tmp 90) 25 rfl Tryz.underlying25 bqS rfl (by omega) B rfl ((aqp HO.out (fun _ _=>rfl)).alloc _) rfl rfl (aqd _ _ _ _ (by first|rfl|omega| (simp<;>omega))) (by simp [Value.oneCell']) (by omega) (by simp only [maxLen];omega) (by omega) (by first|rfl|omega| (simp<;>omega)) ?_
       intro g6 cap6 W' ho hg hb hgg
       have HO6:=Hq ho
       have HG6:=Hq hg
       have X6:=Hq (show Bx W' kb (aq3 σ5 { V with pv:=pv5 }++t) 80 from(hg.block kb (by first|omega| (simp;omega)) (fun e=>hnk e.symm)).trans ((Below.heap_alloc _ _ _ (by first|omega| (simp;omega))).trans HR.out.box))
       have c6:=X6.out.cell 7 rfl
       have z6:=X6.out.frozen 7
       have HGG:=Hq hgg
       clear ho hg hb hgg))
   all_goals
    go_wp2_with fail
    go_ret
    have hz6:=HG6.out.size
    try simp only [World.size_alloc] at hz6
    have hzw:w5.heap.size+1≤W'.heap.size:=by first|exact hz6|exact Nat.le_trans (Nat.le_of_eq (World.size_alloc _ _).symm) hz6
    have hnb: ∀q:Nat,V.fv.ownBlock≠some q→some q≠(Value.slice AF σ5.c.flds.length kF).ownBlock:=fun q h e=>h (by rw [hfv];exact e.symm)
    have hgv:V.fv.ownBlock=some g6∨w5.heap.size≤g6:=by
     rcases HGG.out with e|e
     ·exact .inl (by rw [hfv];exact e)
     right
     first|omega| (simp at e;omega)
    have hgk:g6≠kb:=by
     rintro rfl
     rcases hgv with e|e
     ·exact absurd ((HR.out.flds.2 _ e).symm.trans HR.out.kc) (by decide)
     omega
    obtain⟨ρ',fv',hM,hC⟩:=HR.out.addF (x:=⟨acc,(σ.text s1).1,((σ.text s1).2.text s2).1,0⟩) (w':=W'.setCell ⟨kb,7,none⟩ (.slice (some ⟨g6,0,none⟩) (σ5.c.flds.length+1) cap6)) (g:=g6) (cap:=cap6) HG6.out.os HG6.out.tape HG6.out.output (by simp;omega)
     (fun q hq h1 h2=> (Below.heap_setCell _ _ _ _ h1).trans ((HG6.out.block q (by first|omega| (simp;omega)) (hnb q h2)).trans (Below.heap_alloc _ _ _ hq))) (X6.out.set 7 _) (aqY HO6.out hgk _) hgv
    refine aqs (V':={ V with pv:=pv5,fv:=fv' }) (t':=t) HE.out (show RkC _ ρ' B kb (σ.fldNo s1 s2 acc) _ t from ?_) ?_ (GG5.out.trans (hC.mono (by simp)))
    ·have hs:=Hσ.out
     subst hs
     exact hM
    show eqO _ _ _ _ σ.m
    rw [HM.out]
    trivial
  obtain rfl:cap=3:=by omega
  obtain rfl:n=3:=by omega
  go_enter Tryz.func65,Tryz.ntmps65
  go_wp2_with (go_at_call 63;refine aqa ?_)
  refine aqb ?_
  refine(bq9 (Un ρ) _ _ _ _ _ ((HW.out.part 3 3 (by omega) (by omega) _ (fun h=>absurd h (by omega))).chg GG0.out (by decide))).mono ?_
  intro e w1 hq
  rcases bqy hq with⟨hp,v',rfl,hb1⟩ | ⟨vv,hp,rfl,hb1⟩
  ·have HN:=Hq (show σ.field ws=none from HFD.out.trans (by rw [cqM hp] <;>rfl))
   go_wp2_with fail
   go_ret
   exact aqh HN.out ((BL0.out.trans (hb1.mono (by simp))).mono hB)
  obtain⟨acc,hac,rfl⟩:=cqN hp
  have HE:=Hq (show σ.field ws=some (σ.fldNo s1 s2 acc) from HFD.out.trans (by rw [hac] <;>rfl))
  have HK:=Hq (K0.out.below hb1)
  have FB:=Hq (FB0.out.chg (Chg.of_below (cs:= []) hb1) (by simp))
  have GG:=Hq (GG0.out.trans (Chg.of_below (cs:= [1,3,5]) hb1))
  clear hq hp hac hb1 K0 FB0 GG0 HFD
  have K1:=Hq (HK.out.free (p:=⟨w.heap.size,0,none⟩) FB.out.un (.int .i64 acc))
  have F1:=Hq (FB.out.set 0 (.int .i64 acc))
  have GG1:=Hq (aqO GG.out (p:=⟨w.heap.size,0,none⟩) (Nat.le_refl _) (.int .i64 acc))
  have f0:=FB.out.bx.cell 0 rfl
  have y0:=FB.out.bx.frozen 0
  have e1:=GG1.out.cell0 (by decide) hb HUB.out (off+1)
  rw [HW1.out] at e1
  simp only [List.set_cons_zero] at F1
  go_wp2_with (go_at_call 139;refine aqa ?_)
  refine aqb ?_
  refine(bqo ρ B kb σ V t s1 _ K1.out z1 (by omega)).mono ?_
  rintro e w2 ⟨rfl,ρ2,pv2,hm,hg⟩
  have F2:=Hq ((F1.out.chg hg (by decide)).set 1 (.int .i64 (σ.text s1).1))
  have f1:=(F1.out.chg hg (by decide)).bx.cell 1 rfl
  have y1:=(F1.out.chg hg (by decide)).bx.frozen 1
  have K2:=Hq (hm.free (p:=⟨w.heap.size,1,none⟩) (F1.out.chg hg (by decide)).un (.int .i64 (σ.text s1).1))
  have GG2:=Hq (aqO (GG1.out.trans (hg.mono (by simp))) (p:=⟨w.heap.size,1,none⟩) (Nat.le_refl _) (.int .i64 (σ.text s1).1))
  have e2:=GG2.out.cell0 (by decide) hb HUB.out (off+2)
  rw [HW2.out] at e2
  simp only [List.set_cons_succ,List.set_cons_zero] at F2
  clear hm hg K1 F1 f0 y0 e1
  go_wp2_with (go_at_call 139;refine aqa ?_)
  refine aqb ?_
  refine(bqo ρ2 B kb (σ.text s1).2 { V with pv:=pv2 } t s2 _ K2.out z2 (by omega)).mono ?_
  rintro e w3 ⟨rfl,ρ3,pv3,hm,hg⟩
  have F3:=Hq ((F2.out.chg hg (by decide)).set 2 (.int .i64 ((σ.text s1).2.text s2).1))
  have f2:=(F2.out.chg hg (by decide)).bx.cell 2 rfl
  have y2:=(F2.out.chg hg (by decide)).bx.frozen 2
  have K3:=Hq (hm.free (p:=⟨w.heap.size,2,none⟩) (F2.out.chg hg (by decide)).un (.int .i64 ((σ.text s1).2.text s2).1))
  have GG3:=Hq (aqO (GG2.out.trans (hg.mono (by simp))) (p:=⟨w.heap.size,2,none⟩) (Nat.le_refl _) (.int .i64 ((σ.text s1).2.text s2).1))
  simp only [List.set_cons_succ,List.set_cons_zero] at F3
  clear hm hg K2 F2 f1 y1 e2
  have HR:=K3
  go_wp2_with fail
  obtain⟨w5,hw5⟩: ∃W,W=w3.setCell ⟨w.heap.size,2,none⟩ (.int .i64 ((σ.text s1).2.text s2).1):=⟨_,rfl⟩
  rw [←hw5] at HR F3 GG3⊢
  have F5:=F3
  have GG5:=GG3
  obtain⟨ρ5,hρ5⟩: ∃r,r=ρ3:=⟨_,rfl⟩
  rw [←hρ5] at HR F5 GG5
  obtain⟨pv5,hpv5⟩: ∃p,p=pv3:=⟨_,rfl⟩
  rw [←hpv5] at HR
  clear hw5 hρ5 hpv5 K3 f2 y2
  obtain⟨σ5,hσ5⟩: ∃s,s=((σ.text s1).2.text s2).2:=⟨_,rfl⟩
  rw [←hσ5] at HR
  have hf5:σ5.c.flds.length≤999000:=by rw [hσ5];exact hlf
  have Hσ:=Hq hσ5
  clear hσ5
  have HO:=Hq HR.out.flds.1
  obtain⟨AF,kF,hfv⟩:=aqf HO.out
  have c7:=HR.out.box.cell 7 rfl
  have z7:=HR.out.box.frozen 7
  simp only at hfv c7
  rw [hfv] at HO c7
  have hBw:=HR.out.hB
  have hkr:kb<w5.heap.size:=HR.out.box.lt
  have hnk:(Value.slice AF σ5.c.flds.length kF).ownBlock≠some kb:=fun e=>by
   have h1:=HR.out.flds.2 kb (by simp only;rw [hfv];exact e)
   rw [HR.out.kc] at h1
   omega
  have g0:=F5.out.bx.cell 0 rfl
  have g1:=F5.out.bx.cell 1 rfl
  have g2:=F5.out.bx.cell 2 rfl
  have g3:=F5.out.bx.cell 3 rfl
  go_region_law (first
   | (refine aqt rfl (.tmp 88) (.tmp 90) 25 rfl Tryz.underlying25 bqS rfl (by omega) B rfl ((aqp HO.out (fun _ _=>rfl)).alloc _) rfl rfl (aqd _ _ _ _ (by first|rfl|omega| (simp<;>omega))) (by simp [Value.oneCell']) (by omega) (by simp only [maxLen];omega) (by omega) (by first|rfl|omega| (simp<;>omega)) ?_
      intro g6 cap6 W' ho hg hb hgg
      have HO6:=Hq ho
      have HG6:=Hq hg
      have X6:=Hq (show Bx W' kb (aq3 σ5 { V with pv:=pv5 }++t) 80 from(hg.block kb (by first|omega| (simp;omega)) (fun e=>hnk e.symm)).trans ((Below.heap_alloc _ _ _ (by first|omega| (simp;omega))).trans HR.out.box))
      have c6:=X6.out.cell 7 rfl
      have z6:=X6.out.frozen 7
      have HGG:=Hq hgg
      clear ho hg hb hgg))
  all_goals
   go_wp2_with fail
   go_ret
   have hz6:=HG6.out.size
   try simp only [World.size_alloc] at hz6
   have hzw:w5.heap.size+1≤W'.heap.size:=by first|exact hz6|exact Nat.le_trans (Nat.le_of_eq (World.size_alloc _ _).symm) hz6
   have hnb: ∀q:Nat,V.fv.ownBlock≠some q→some q≠(Value.slice AF σ5.c.flds.length kF).ownBlock:=fun q h e=>h (by rw [hfv];exact e.symm)
   have hgv:V.fv.ownBlock=some g6∨w5.heap.size≤g6:=by
    rcases HGG.out with e|e
    ·exact .inl (by rw [hfv];exact e)
    right
    first|omega| (simp at e;omega)
   have hgk:g6≠kb:=by
    rintro rfl
    rcases hgv with e|e
    ·exact absurd ((HR.out.flds.2 _ e).symm.trans HR.out.kc) (by decide)
    omega
   obtain⟨ρ',fv',hM,hC⟩:=HR.out.addF (x:=⟨acc,(σ.text s1).1,((σ.text s1).2.text s2).1,0⟩) (w':=W'.setCell ⟨kb,7,none⟩ (.slice (some ⟨g6,0,none⟩) (σ5.c.flds.length+1) cap6)) (g:=g6) (cap:=cap6) HG6.out.os HG6.out.tape HG6.out.output (by simp;omega)
    (fun q hq h1 h2=> (Below.heap_setCell _ _ _ _ h1).trans ((HG6.out.block q (by first|omega| (simp;omega)) (hnb q h2)).trans (Below.heap_alloc _ _ _ hq))) (X6.out.set 7 _) (aqY HO6.out hgk _) hgv
   refine aqs (V':={ V with pv:=pv5,fv:=fv' }) (t':=t) HE.out (show RkC _ ρ' B kb (σ.fldNo s1 s2 acc) _ t from ?_) ?_ (GG5.out.trans (hC.mono (by simp)))
   ·have hs:=Hσ.out
    subst hs
    exact hM
   show eqO _ _ _ _ σ.m
   rw [HM.out]
   trivial
 have h4:4<n:=by
  rcases Nat.lt_or_ge 4 n with h|h
  ·exact h
  rw [decide_eq_false (by omega),Bool.false_and] at hvb
  cases hvb
 have HFD:=Hq (hqy (σ:=σ) (by rw [←HLN.out];exact hvb))
 rw [HS1.out,HS2.out, ←HLN.out] at HFD
 obtain⟨q,hq⟩: ∃q,ws[n - 2]?=some q:=⟨_,List.getElem?_eq_getElem (by rw [←HLN.out];omega)⟩
 have hqe:(q.toList== [61])=true:=by
  rw [decide_eq_true (by omega),Bool.true_and,aqE hq] at hvb
  rw [ByteArray.toList_eq]
  exact hvb
 obtain⟨d,hd⟩: ∃d,ws[n - 1]?=some d:=⟨_,List.getElem?_eq_getElem (by rw [←HLN.out];omega)⟩
 rw [show n - 2+1=n - 1 by omega,aqE hd] at HFD
 have hdz:=HZ.out d (List.mem_of_getElem? hd)
 have cq:=HC.out (n - 2) q hq
 have cd:=HC.out (n - 1) d hd
 have hn2:IntKind.i64.wrap ((n:Int) - 2)=((n - 2:Nat):Int):=by rw [IntWalk.i64_in _ (by omega)];omega
 have hn1:IntKind.i64.wrap ((n:Int) - 1)=((n - 1:Nat):Int):=by rw [IntWalk.i64_in _ (by omega)];omega
 have hn5:(5:Int)≤(n:Int):=by omega
 have hn6:(0:Int)≤((n - 2:Nat):Int):=by omega
 have hn7:((n - 2:Nat):Int) < (n:Int):=by omega
 have hn8:(0:Int)≤((n - 1:Nat):Int):=by omega
 have hn9:((n - 1:Nat):Int) < (n:Int):=by omega
 have hc3:(3:Int)≤((n - 2:Nat):Int):=by omega
 have hc4:((n - 2:Nat):Int)≤(cap:Int):=by omega
 have hdd:=HZ.out
 clear hq hd hvb hdd
 go_enter Tryz.func65,Tryz.ntmps65
 go_wp2_with (go_at_call 136;refine aqa ?_)
 refine aqb ?_
 refine(bqB d (-2147483648) 2147483647 _ (by omega)).mono ?_
 intro e wa hqa
 rcases bqy hqa with⟨hpa,va',rfl,hba⟩ | ⟨v,hpa,rfl,hba⟩
 ·have HN:=Hq (show σ.field ws=none from HFD.out.trans (by rw [hpa];cases aqS ((ws.take (n - 2)).drop 3) 0<;>rfl))
  go_wp2_with fail
  go_ret
  exact aqh HN.out ((BL0.out.trans (hba.mono (by simp))).mono hB)
 have hvr:=cqU hpa
 have BLa:=Hq (BL0.out.trans (hba.mono (by simp)))
 have Ka:=Hq (K0.out.below hba)
 have FBa:=Hq (FB0.out.chg (Chg.of_below (cs:= []) hba) (by simp))
 have GGa:=Hq (GG0.out.trans (Chg.of_below (cs:= [1,3,5]) hba))
 have hza:=hba.size
 simp only [World.size_alloc] at hza
 clear hqa hba K0 FB0 GG0
 go_wp2_with (go_at_call 63;refine aqa ?_)
 refine aqb ?_
 refine(bq9 (Un ρ) _ _ _ _ _ ((HW.out.part 3 (n - 2) (by omega) (by omega) _ (fun _=>rfl)).chg GGa.out (by decide))).mono ?_
 intro e w1 hq
 rcases bqy hq with⟨hp,v',rfl,hb1⟩ | ⟨vv,hp,rfl,hb1⟩
 ·have HN:=Hq (show σ.field ws=none from HFD.out.trans (by rw [cqM hp] <;>rfl))
  go_wp2_with fail
  go_ret
  exact aqh HN.out ((BLa.out.trans (hb1.mono (by omega))).mono hB)
 obtain⟨acc,hac,rfl⟩:=cqN hp
 have HE:=Hq (show σ.field ws=some (σ.fldYes s1 s2 acc v) from HFD.out.trans (by rw [hac,hpa] <;>rfl))
 have HK:=Hq (Ka.out.below hb1)
 have FB:=Hq (FBa.out.chg (Chg.of_below (cs:= []) hb1) (by simp))
 have GG:=Hq (GGa.out.trans (Chg.of_below (cs:= [1,3,5]) hb1))
 have hl3':(((σ.text s1).2.text s2).2.number v).2.c.pool.length≤999003:=(bqn (k:=⟨3,⟨#[]⟩,v,0,0⟩) hl2').1
 clear hq hp hpa hac hb1 Ka FBa GGa HFD
 have K1:=Hq (HK.out.free (p:=⟨w.heap.size,0,none⟩) FB.out.un (.int .i64 acc))
 have F1:=Hq (FB.out.set 0 (.int .i64 acc))
 have GG1:=Hq (aqO GG.out (p:=⟨w.heap.size,0,none⟩) (Nat.le_refl _) (.int .i64 acc))
 have f0:=FB.out.bx.cell 0 rfl
 have y0:=FB.out.bx.frozen 0
 have e1:=GG1.out.cell0 (by decide) hb HUB.out (off+1)
 rw [HW1.out] at e1
 simp only [List.set_cons_zero] at F1
 go_wp2_with (go_at_call 139;refine aqa ?_)
 refine aqb ?_
 refine(bqo ρ B kb σ V t s1 _ K1.out z1 (by omega)).mono ?_
 rintro e w2 ⟨rfl,ρ2,pv2,hm,hg⟩
 have F2:=Hq ((F1.out.chg hg (by decide)).set 1 (.int .i64 (σ.text s1).1))
 have f1:=(F1.out.chg hg (by decide)).bx.cell 1 rfl
 have y1:=(F1.out.chg hg (by decide)).bx.frozen 1
 have K2:=Hq (hm.free (p:=⟨w.heap.size,1,none⟩) (F1.out.chg hg (by decide)).un (.int .i64 (σ.text s1).1))
 have GG2:=Hq (aqO (GG1.out.trans (hg.mono (by simp))) (p:=⟨w.heap.size,1,none⟩) (Nat.le_refl _) (.int .i64 (σ.text s1).1))
 have e2:=GG2.out.cell0 (by decide) hb HUB.out (off+2)
 rw [HW2.out] at e2
 simp only [List.set_cons_succ,List.set_cons_zero] at F2
 clear hm hg K1 F1 f0 y0 e1
 go_wp2_with (go_at_call 139;refine aqa ?_)
 refine aqb ?_
 refine(bqo ρ2 B kb (σ.text s1).2 { V with pv:=pv2 } t s2 _ K2.out z2 (by omega)).mono ?_
 rintro e w3 ⟨rfl,ρ3,pv3,hm,hg⟩
 have F3:=Hq ((F2.out.chg hg (by decide)).set 2 (.int .i64 ((σ.text s1).2.text s2).1))
 have f2:=(F2.out.chg hg (by decide)).bx.cell 2 rfl
 have y2:=(F2.out.chg hg (by decide)).bx.frozen 2
 have K3:=Hq (hm.free (p:=⟨w.heap.size,2,none⟩) (F2.out.chg hg (by decide)).un (.int .i64 ((σ.text s1).2.text s2).1))
 have GG3:=Hq (aqO (GG2.out.trans (hg.mono (by simp))) (p:=⟨w.heap.size,2,none⟩) (Nat.le_refl _) (.int .i64 ((σ.text s1).2.text s2).1))
 simp only [List.set_cons_succ,List.set_cons_zero] at F3
 clear hm hg K2 F2 f1 y1 e2
 go_wp2_with (go_at_call 141;refine aqa ?_)
 refine aqb ?_
 refine(iq9 ρ3 B kb ((σ.text s1).2.text s2).2 { V with pv:=pv3 } t v _ K3.out hvr (by omega)).mono ?_
 rintro e w4 ⟨rfl,ρ4,pv4,hm,hg⟩
 have F4:=Hq ((F3.out.chg hg (by decide)).set 3 (.int .i64 (((σ.text s1).2.text s2).2.number v).1))
 have f3:=(F3.out.chg hg (by decide)).bx.cell 3 rfl
 have y3:=(F3.out.chg hg (by decide)).bx.frozen 3
 have K4:=Hq (hm.free (p:=⟨w.heap.size,3,none⟩) (F3.out.chg hg (by decide)).un (.int .i64 (((σ.text s1).2.text s2).2.number v).1))
 have GG4:=Hq (aqO (GG3.out.trans (hg.mono (by simp))) (p:=⟨w.heap.size,3,none⟩) (Nat.le_refl _) (.int .i64 (((σ.text s1).2.text s2).2.number v).1))
 simp only [List.set_cons_succ,List.set_cons_zero] at F4
 clear hm hg K3 F3 f2 y2
 go_wp2_with (go_at_call 139;refine aqa ?_)
 refine aqb ?_
 refine(bqo ρ4 B kb (((σ.text s1).2.text s2).2.number v).2 { V with pv:=pv4 } t aq7 _ K4.out (by decide) (by omega)).mono ?_
 rintro e w5 ⟨rfl,ρ5,pv5,hm,hg⟩
 have F5:=Hq (F4.out.chg hg (by decide))
 have HR:=Hq hm
 have GG5:=Hq (GG4.out.trans (hg.mono (by simp)))
 clear hm hg K4 F4 f3 y3
 obtain⟨σ5,hσ5⟩: ∃s,s=((((σ.text s1).2.text s2).2.number v).2.text aq7).2:=⟨_,rfl⟩
 rw [←hσ5] at HR
 have hf5:σ5.c.flds.length≤999000:=by rw [hσ5];exact hlf
 have Hσ:=Hq hσ5
 clear hσ5
 have HO:=Hq HR.out.flds.1
 obtain⟨AF,kF,hfv⟩:=aqf HO.out
 have c7:=HR.out.box.cell 7 rfl
 have z7:=HR.out.box.frozen 7
 simp only at hfv c7
 rw [hfv] at HO c7
 have hBw:=HR.out.hB
 have hkr:kb<w5.heap.size:=HR.out.box.lt
 have hnk:(Value.slice AF σ5.c.flds.length kF).ownBlock≠some kb:=fun e=>by
  have h1:=HR.out.flds.2 kb (by simp only;rw [hfv];exact e)
  rw [HR.out.kc] at h1
  omega
 have g0:=F5.out.bx.cell 0 rfl
 have g1:=F5.out.bx.cell 1 rfl
 have g2:=F5.out.bx.cell 2 rfl
 have g3:=F5.out.bx.cell 3 rfl
 go_wp2_with fail
 go_region_law (first
  | (refine aqt rfl (.tmp 88) (.tmp 90) 25 rfl Tryz.underlying25 bqS rfl (by omega) B rfl ((aqp HO.out (fun _ _=>rfl)).alloc _) rfl rfl (aqd _ _ _ _ (by first|rfl|omega| (simp<;>omega))) (by simp [Value.oneCell']) (by omega) (by simp only [maxLen];omega) (by omega) (by first|rfl|omega| (simp<;>omega)) ?_
     intro g6 cap6 W' ho hg hb hgg
     have HO6:=Hq ho
     have HG6:=Hq hg
     have X6:=Hq (show Bx W' kb (aq3 σ5 { V with pv:=pv5 }++t) 80 from(hg.block kb (by first|omega| (simp;omega)) (fun e=>hnk e.symm)).trans ((Below.heap_alloc _ _ _ (by first|omega| (simp;omega))).trans HR.out.box))
     have c6:=X6.out.cell 7 rfl
     have z6:=X6.out.frozen 7
     have HGG:=Hq hgg
     clear ho hg hb hgg))
 all_goals
  go_wp2_with fail
  go_ret
  have hz6:=HG6.out.size
  try simp only [World.size_alloc] at hz6
  have hzw:w5.heap.size+1≤W'.heap.size:=by first|exact hz6|exact Nat.le_trans (Nat.le_of_eq (World.size_alloc _ _).symm) hz6
  have hnb: ∀q:Nat,V.fv.ownBlock≠some q→some q≠(Value.slice AF σ5.c.flds.length kF).ownBlock:=fun q h e=>h (by rw [hfv];exact e.symm)
  have hgv:V.fv.ownBlock=some g6∨w5.heap.size≤g6:=by
   rcases HGG.out with e|e
   ·exact .inl (by rw [hfv];exact e)
   right
   first|omega| (simp at e;omega)
  have hgk:g6≠kb:=by
   rintro rfl
   rcases hgv with e|e
   ·exact absurd ((HR.out.flds.2 _ e).symm.trans HR.out.kc) (by decide)
   omega
  obtain⟨ρ',fv',hM,hC⟩:=HR.out.addF (x:=⟨acc,(σ.text s1).1,((σ.text s1).2.text s2).1,(((σ.text s1).2.text s2).2.number v).1⟩) (w':=W'.setCell ⟨kb,7,none⟩ (.slice (some ⟨g6,0,none⟩) (σ5.c.flds.length+1) cap6)) (g:=g6) (cap:=cap6) HG6.out.os HG6.out.tape HG6.out.output (by simp;omega)
   (fun q hq h1 h2=> (Below.heap_setCell _ _ _ _ h1).trans ((HG6.out.block q (by first|omega| (simp;omega)) (hnb q h2)).trans (Below.heap_alloc _ _ _ hq))) (X6.out.set 7 _) (aqY HO6.out hgk _) hgv
  refine aqs (V':={ V with pv:=pv5,fv:=fv' }) (t':=t) HE.out (show RkC _ ρ' B kb (σ.fldYes s1 s2 acc v) _ t from ?_) ?_ (GG5.out.trans (hC.mono (by simp)))
  ·have hs:=Hσ.out
   subst hs
   exact hM
  show eqO _ _ _ _ σ.m
  rw [HM.out]
  trivial
end Go.Proofs.YtlcidkiplidamaaGreatDoor
