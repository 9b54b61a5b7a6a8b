/-
  What the laws rest on, part 34: walks of the program's functions and plain laws. Conditions: none but those that each theorem names.
-/
import Derived.Test.YtlcidkiplidamaaGreatDoorB00
import Derived.Test.YtlcidkiplidamaaGreatDoorB31
import Derived.Test.YtlcidkiplidamaaGreatDoorB33
set_option linter.unusedSimpArgs false
set_option linter.unusedVariables false
set_option maxRecDepth 100000
set_option maxHeartbeats 4000000
namespace Go.Proofs.YtlcidkiplidamaaGreatDoor
open Go Go.RowKit Lib Go.Maps
theorem RtC.setB {w:World} {ρ:Nat→Nat} {B:Nat} {m:AsM} {U:RtV} {g n cap:Nat} (h:RtC w ρ B m U) (hcv:U.cv= .slice (some ⟨g,0,Option.none⟩) n cap) (i:Nat) (x:UInt8):RtC (w.setCell ⟨g,i,Option.none⟩ (bV x)) ρ B { m with mv:={ m.mv with code:=m.mv.code.set i x } } U∧Chg [10] w ρ (w.setCell ⟨g,i,Option.none⟩ (bV x)) ρ:=by
 have hg:ρ g=10:=h.code.2 g (by rw [hcv];rfl)
 have hC:Chg [10] w ρ (w.setCell ⟨g,i,Option.none⟩ (bV x)) ρ:=⟨rfl,rfl,rfl,by simp,fun q hq hr=> ⟨Below.heap_setCell _ _ _ _ (by rintro rfl;exact hr (by rw [hg];simp)),rfl⟩⟩
 refine⟨⟨⟨?_,h.code.2⟩,hC.own h.labs (by decide),hC.own h.jumps (by decide),hC.own h.traps (by decide),h.none⟩,hC⟩
 have hrow:=h.code.1
 have hn:n=m.mv.code.length:=by
  obtain⟨A',c',e⟩:=aqf hrow
  rw [hcv] at e
  injection e
 subst hn
 rw [hcv] at hrow⊢
 have hs:=hrow.stored i (bV x)
 exact bqq hs.1 (by simp) (by simp [List.map_set])
structure FnK (w:World) (ρ:Nat→Nat) (B kb:Nat) (σ:AsK) (V:RkV) (m:AsM) (U:RtV) (code:List UInt8) (W:World):Prop where
 k:RkC W ρ B kb σ V (aq4 m U)
 mt:RtC W ρ B { m with mv:={ m.mv with code:=code } } U
 chg:Chg [10] w ρ W ρ
theorem FnK.below {w:World} {ρ:Nat→Nat} {B kb:Nat} {σ:AsK} {V:RkV} {m:AsM} {U:RtV} {code:List UInt8} {W W2:World} (h:FnK w ρ B kb σ V m U code W) (hb:Below W.heap.size W W2):FnK w ρ B kb σ V m U code W2:=⟨h.k.below hb,h.mt.below hb,h.chg.trans (Chg.of_below hb)⟩
theorem FnK.setB {w:World} {ρ:Nat→Nat} {B kb:Nat} {σ:AsK} {V:RkV} {m:AsM} {U:RtV} {code:List UInt8} {W:World} {g n cap:Nat} (h:FnK w ρ B kb σ V m U code W) (hcv:U.cv= .slice (some ⟨g,0,none⟩) n cap) (i:Nat) (x:UInt8):FnK w ρ B kb σ V m U (code.set i x) (W.setCell ⟨g,i,none⟩ (bV x)):=by
 obtain⟨h1,h2⟩:=h.mt.setB hcv i x
 exact⟨h.k.keep h2 (h.k.low.mono h2.size) (by intro c h1 h2 hm;simp at hm;omega),h1,h.chg.trans h2⟩
theorem FnK.code {w:World} {ρ:Nat→Nat} {B kb:Nat} {σ:AsK} {V:RkV} {m:AsM} {U:RtV} {code:List UInt8} {W:World} {g n cap:Nat} (h:FnK w ρ B kb σ V m U code W) (hcv:U.cv= .slice (some ⟨g,0,none⟩) n cap) {i:Nat} {x:UInt8} (hi:code[i]?=some x):W.cell? ⟨g,i,none⟩=some (bV x)∧W.frozen? ⟨g,i,none⟩=false∧g<W.heap.size∧ρ g=10:=by
 have hrow:=h.mt.code.1
 have hlt:=(List.getElem?_eq_some_iff.1 hi).1
 obtain⟨A',c',e⟩:=aqf hrow
 rw [hcv] at e
 injection e with e1 e2 e3
 have hn:n=code.length:=e2
 subst hn
 have hrow':W.ownsRow B 5 1 (.slice (some ⟨g,0,none⟩) code.length cap) code.length (code.map bV):=by rw [←hcv];exact hrow
 refine⟨?_, ?_,(hrow'.lt g rfl).2,h.mt.code.2 g (by rw [hcv];rfl)⟩
 ·rw [hrow'.cellAt i (by omega),List.getElem?_map,hi]
  rfl
 rcases hrow'.2 with h2| ⟨g',cap',cur,e1',_,h4,_⟩
 ·cases h2.1
 injection e1' with e1' _ _
 injection e1' with e1'
 injection e1' with e1' _ _
 subst e1'
 unfold World.frozen?
 rw [h4]
 simp
structure FnT (w:World) (ρ:Nat→Nat) (B kb:Nat) (σ:AsK) (V:RkV) (m:AsM) (U:RtV) (code:List UInt8) (ts:List bq2) (W:World) (ρ':Nat→Nat) (tv:Value):Prop where
 k:RkC W ρ' B kb σ V ((aq4 m U).set 9 tv)
 mt:RtC W ρ' B { m with mv:={ m.mv with code:=code } } U
 tr:eqo W ρ' B 112 4 tv ts.length (ts.flatMap bq2.cells) 13
 chg:Chg [1,10,13] w ρ W ρ'
theorem FnT.below {w:World} {ρ ρ':Nat→Nat} {B kb:Nat} {σ:AsK} {V:RkV} {m:AsM} {U:RtV} {code:List UInt8} {ts:List bq2} {W W2:World} {tv:Value} (h:FnT w ρ B kb σ V m U code ts W ρ' tv) (hb:Below W.heap.size W W2):FnT w ρ B kb σ V m U code ts W2 ρ' tv:=⟨h.k.below hb,h.mt.below hb,(Chg.of_below (cs:= []) hb).own h.tr (by simp),h.chg.trans (Chg.of_below hb)⟩
theorem dqu {l:List (List UInt8×Nat)} {s:ByteArray} (h:bql l s=none):dqL l s= -1:=by unfold dqL;rw [h]
theorem cqa {l:List (List UInt8×Nat)} {s:ByteArray} {p:Nat} (h:bql l s=some p):dqL l s=p:=by unfold dqL;rw [h]
theorem hqK {α:Type} {l:List α} {k:Nat} {x:α} (h:l[k]?=some x):l.drop k=x::l.drop (k+1):=by
 obtain⟨hlt,e⟩:=List.getElem?_eq_some_iff.1 h
 rw [List.drop_eq_getElem_cons hlt,e]
theorem lqR {w:World} {ρ:Nat→Nat} {B c:Nat} {e:TypeId} {size:Nat} {α:Type} {f:α→List Value} {l:List α} {v:Value} (hf: ∀x,(f x).length=size) (hs:0<size) (h:eqo w ρ B e size v l.length (l.flatMap f) c) {A:Option Addr} {n k:Nat} (hv:v= .slice A n k) {i:Nat} {x:α} (hi:l[i]?=some x):
  ∃g,A=some ⟨g,0,none⟩∧g<w.heap.size∧ ∀q,q<size→w.cell? ⟨g,i*size+q,none⟩=(f x)[q]?:=by
 have hlt:=(List.getElem?_eq_some_iff.1 hi).1
 rcases Go.Joins.ownsRow_forms h.1 with⟨_,h0⟩ | ⟨g,cap,e⟩
 ·omega
 rw [hv] at e
 injection e with e _ _
 subst e
 have hrow:=h.1
 rw [hv] at hrow
 refine⟨g,rfl,(hrow.lt g rfl).2,fun q hq=> ?_⟩
 have hnl:n=l.length:=by
  obtain⟨A',c',e⟩:=aqf hrow
  injection e
 subst hnl
 refine(hrow.cellAt (i*size+q) ?_).trans (gq0 f size hf _ i q x hi hq)
 have h1:(i+1)*size≤l.length*size:=Nat.mul_le_mul_right _ hlt
 rw [Nat.add_mul] at h1
 omega
theorem iqC (ρ:Nat→Nat) (B kb:Nat) (σ:AsK) (V:RkV) (m:AsM) (U:RtV) (w:World) (N:Nat) (hK:RkC w ρ B kb σ V (aq4 m U)) (hm0:σ.m=none) (hM:RtC w ρ B m U) (hMS:eqJ m N) (hN:N≤900000) (hlm:σ.c.mths.length≤900000):
  Calls Tryz.prog 29 #[.pointer (some ⟨kb,0,none⟩)] w (fun e w'=>cqh [1,6,10,13] w ρ B kb (σ.endM m) e w'∧(σ.endM m=none→w'.cell? ⟨kb,12,none⟩=some (.int .i64 m.line))):=by
 have HK:=Hq hK
 have HM:=Hq hM
 have HMS:=Hq hMS
 have HM0:=Hq hm0
 obtain⟨AJ,kJ,hjv⟩:=aqf hM.jumps.1
 obtain⟨AT,kT,htv⟩:=aqf hM.traps.1
 have hlj:=hMS.jumps
 have hlt':=hMS.traps
 have hlc:=hMS.code
 have hll:=hMS.labels
 clear hK hM hMS hm0
 go_enter Tryz.func29,Tryz.ntmps29
 go_wp2_with fail
 go_loopw [3] (fun i wr=> ∃(k:Nat) (code:List UInt8),i= .int .i64 k∧k≤m.jumps.length∧code.length=m.mv.code.length∧Hid (bqO m.labels m.jumps m.mv.code=bqO m.labels (m.jumps.drop k) code)∧Hid (FnK w ρ B kb σ V m U code wr)) (fun i _=>m.jumps.length - (RowKit.intOf i).toNat)
 case atStart=>exact⟨0,m.mv.code,rfl,by omega,rfl,Hq rfl,Hq ⟨HK.out,HM.out,Chg.refl _ _ _⟩⟩
 case round=>
  obtain⟨wr1,hwr⟩: ∃W,W=wr:=⟨_,rfl⟩
  subst hwr
  obtain⟨k,code,rfl,hk,hcl,HJ,HF⟩:=hrel
  have c22:=HF.out.k.box.cell 22 (show _=some U.jv from rfl)
  have hkr:=HF.out.k.box.lt
  rw [hjv] at c22
  by_cases hlt:k<m.jumps.length
  ·obtain⟨j,hj⟩: ∃j,m.jumps[k]?=some j:=⟨_,List.getElem?_eq_getElem hlt⟩
   obtain⟨gj,rfl,hgl,hcells⟩:=lqR (f:=AsF.rcells) (fun _=>rfl) (by omega) HF.out.mt.jumps hjv hj
   have j0:=hcells 0 (by omega)
   have j1:=hcells 1 (by omega)
   have j2:=hcells 2 (by omega)
   simp only [AsF.rcells,List.getElem?_cons_zero,List.getElem?_cons_succ,Nat.add_zero] at j0 j1 j2
   have hjb:=HMS.out.jump j (List.mem_of_getElem? hj)
   have HDR:=Hq (hqK hj)
   have HA:=Hq (HF.out.below ((Below.refl _ _).alloc (Nat.le_refl _) (.cells #[.int .i64 j.fr, .int .i64 j.at', .string j.lab] 132)))
   have XJ:=Hq (aqo wr1 [.int .i64 j.fr, .int .i64 j.at', .string j.lab] 132)
   have HPL:=Hq (dqq B kb _ ρ m.labels U.lv j.lab _ HA.out.k.box rfl HA.out.mt.labs (by omega))
   obtain⟨lk,hlk⟩: ∃lk,bql m.labels j.lab=lk:=⟨_,rfl⟩
   have HLK:=Hq hlk
   clear hcells hj
   cases lk with
   |none=>
    have HN:=Hq (show σ.endM m=none by unfold AsK.endM;rw [HJ.out,HDR.out,bqO,HLK.out])
    have hpi:=dqu hlk
    rw [hpi] at HPL
    clear hlk hpi
    go_wp2_with (go_at_call 67;refine HPL.out.mono ?_;rintro e w2 ⟨rfl,rfl⟩)
    go_ret
    exact⟨aqh HN.out (HA.out.chg.below HK.out.low HK.out.hB (by decide)),fun _=>HA.out.k.box.cell 12 rfl⟩
   |some p=>
    have hpn:=fqX HMS.out.places hlk
    have hpi:=cqa hlk
    rw [hpi] at HPL
    clear hlk hpi
    have hp0:decide ((p:Int) <0)=false:=by rw [decide_eq_false_iff_not];omega
    by_cases h1:(p:Int) - j.fr< -32768
    ·have h1':decide ((p:Int) - j.fr< -32768)=true:=by rw [decide_eq_true_eq];exact h1
     have HN:=Hq (show σ.endM m=none by unfold AsK.endM;rw [HJ.out,HDR.out,bqO,HLK.out];simp only;rw [if_neg (by omega)])
     go_wp2_with (go_at_call 67;refine HPL.out.mono ?_;rintro e w2 ⟨rfl,rfl⟩)
     go_ret
     exact⟨aqh HN.out (HA.out.chg.below HK.out.low HK.out.hB (by decide)),fun _=>HA.out.k.box.cell 12 rfl⟩
    have h1':decide ((p:Int) - j.fr< -32768)=false:=by rw [decide_eq_false_iff_not];exact h1
    by_cases h2:32767< (p:Int) - j.fr
    ·have h2':decide ((p:Int) - j.fr>32767)=true:=by rw [decide_eq_true_eq];exact h2
     have HN:=Hq (show σ.endM m=none by unfold AsK.endM;rw [HJ.out,HDR.out,bqO,HLK.out];simp only;rw [if_neg (by omega)])
     go_wp2_with (go_at_call 67;refine HPL.out.mono ?_;rintro e w2 ⟨rfl,rfl⟩)
     go_ret
     exact⟨aqh HN.out (HA.out.chg.below HK.out.low HK.out.hB (by decide)),fun _=>HA.out.k.box.cell 12 rfl⟩
    have h2':decide ((p:Int) - j.fr>32767)=false:=by rw [decide_eq_false_iff_not];exact h2
    have HJ2:=Hq (show bqO m.labels m.jumps m.mv.code=bqO m.labels (m.jumps.drop (k+1)) ((code.set j.at' (aqn (((p:Int) - j.fr)/256))).set (j.at'+1) (aqn ((p:Int) - j.fr))) by
     rw [HJ.out,HDR.out,bqO,HLK.out]
     simp only
     rw [if_pos (by omega)])
    obtain⟨gC,kC,hcv⟩: ∃gC kC,U.cv= .slice (some ⟨gC,0,none⟩) m.mv.code.length kC:=by
     rcases Go.Joins.ownsRow_forms HM.out.code.1 with⟨_,h0⟩ | ⟨g,cap,e⟩
     ·omega
     exact⟨g,cap,e⟩
    go_wp2_with (first| (go_at_call 67;refine HPL.out.mono ?_;rintro e w2 ⟨rfl,rfl⟩) | (go_at_call 68;refine aqa ?_))
    refine aqb ?_
    refine(dqt ((p:Int) - j.fr) _).mono ?_
    rintro e w5 ⟨r,rfl,hor,hb5⟩
    obtain⟨gq,kq,rfl⟩: ∃gq kq,r= .slice (some ⟨gq,0,none⟩) 2 kq:=by
     rcases Go.Joins.ownsRow_forms hor with⟨_,h0⟩ | ⟨g,k,e⟩
     ·omega
     exact⟨g,k,e⟩
    rw [jq8] at hor
    have q0:=hor.cellAt 0 (by omega)
    have q1:=hor.cellAt 1 (by omega)
    simp only [aqT,List.map_cons,List.map_nil,List.getElem?_cons_zero,List.getElem?_cons_succ] at q0 q1
    have hgq:=(hor.lt gq rfl)
    simp only [World.size_alloc] at hgq
    have H5:=Hq (HA.out.below hb5)
    have X5:=Hq (XJ.out.below hb5 XJ.out.lt)
    have s1:=X5.out.cell 1 rfl
    have c19:=H5.out.k.box.cell 19 (show _=some U.cv from rfl)
    rw [hcv] at c19
    obtain⟨x0,hx0⟩: ∃x,code[j.at']?=some x:=⟨_,List.getElem?_eq_getElem (by omega)⟩
    obtain⟨x1,hx1⟩: ∃x,code[j.at'+1]?=some x:=⟨_,List.getElem?_eq_getElem (by omega)⟩
    obtain⟨k0,f0,hgc,hgr⟩:=H5.out.code hcv hx0
    have hck:gC≠kb:=fun e=>by
     have h1:=H5.out.k.kc
     rw [←e,hgr] at h1
     omega
    have hjc:wr1.heap.size≠gC:=fun e=>by
     have h1:=H5.out.mt.code.2 gC (by show U.cv.ownBlock=some gC;rw [hcv];rfl)
     rw [←e,HF.out.k.low.fresh (Nat.le_refl _)] at h1
     omega
    have hqc:gq≠gC:=fun e=>by
     rw [←e,HF.out.k.low.fresh (by omega)] at hgr
     omega
    have H6:=Hq ((H5.out.below (below_drewN (Below.refl _ _) 1)).setB hcv j.at' (aqn (((p:Int) - j.fr)/256)))
    have H7:=Hq ((H6.out.below (below_drewN (Below.refl _ _) 1)).setB hcv (j.at'+1) (aqn ((p:Int) - j.fr)))
    obtain⟨k1,f1,_,_⟩:=H5.out.code hcv hx1
    obtain⟨n0,hn0⟩: ∃n:Int,bV (aqn (((p:Int) - j.fr)/256))= .int .u8 n:=⟨_,rfl⟩
    obtain⟨n1,hn1⟩: ∃n:Int,bV (aqn ((p:Int) - j.fr))= .int .u8 n:=⟨_,rfl⟩
    rw [hn0] at q0 H7
    rw [hn1] at q1 H7
    clear hn0 hn1
    have hi0:(0:Int)≤(j.at':Int):=by omega
    have hi1:(j.at':Int) < (m.mv.code.length:Int):=by omega
    have hi2:(0:Int)≤(j.at':Int)+1:=by omega
    have hi3:(j.at':Int)+1< (m.mv.code.length:Int):=by omega
    have hwi:IntKind.i64.wrap ((j.at':Int)+1)=((j.at'+1:Nat):Int):=by rw [IntWalk.i64_in _ (by omega)];omega
    have hjc2: ¬gC=wr1.heap.size:=fun e=>hjc e.symm
    have hqc2: ¬gC=gq:=fun e=>hqc e.symm
    have hck2: ¬kb=gC:=fun e=>hck e.symm
    clear hor hb5 hx0 hx1
    go_wp2_with fail
    go_region_law (fail)
    all_goals
     go_wp2_with fail
     go_region_law (fail)
    all_goals
     go_wp2_with fail
     go_roundw
     case rel=>exact⟨k+1,_,by go_num,by omega,by simp;omega,HJ2,H7⟩
     case measure=>simp [RowKit.intOf];omega
  have hkl:k=m.jumps.length:=by omega
  have HC1:=Hq (show bqO m.labels m.jumps m.mv.code=some code by rw [HJ.out,hkl,List.drop_length];rfl)
  have hlt2: ¬(k:Int) < (m.jumps.length:Int):=by omega
  have HT0:=Hq (show FnT w ρ B kb σ V m U code [] wr1 ρ (.slice none 0 0) from⟨HF.out.k,HF.out.mt,aqN _ _ _ _ _ _,HF.out.chg.mono (by simp)⟩)
  clear HJ
  go_wp2_with fail
  clear c22
  go_loopw [8] (fun i wr=> ∃(k:Nat) (ts:List bq2) (tv:Value) (ρ':Nat→Nat),i= .int .i64 k∧k≤m.traps.length∧ts.length=k∧Hid (bqL m.labels m.traps=(bqL m.labels (m.traps.drop k)).map (ts++ ·))∧Hid (FnT w ρ B kb σ V m U code ts wr ρ' tv)) (fun i _=>m.traps.length - (RowKit.intOf i).toNat)
  case atStart=>exact⟨0, [],_,ρ,rfl,by omega,rfl,Hq (by rw [List.drop_zero];cases bqL m.labels m.traps<;>rfl),HT0⟩
  case round=>
   clear HF HT0 hlt2
   obtain⟨wr2,hwr⟩: ∃W,W=wr:=⟨_,rfl⟩
   subst hwr
   obtain⟨k,ts,tv,ρ',rfl,hk,hts,HJ,HF⟩:=hrel
   subst hts
   have c23:=HF.out.k.box.cell 23 (show _=some U.tv from rfl)
   have hkr:=HF.out.k.box.lt
   rw [htv] at c23
   by_cases hlt:ts.length<m.traps.length
   ·obtain⟨t,ht⟩: ∃t,m.traps[ts.length]?=some t:=⟨_,List.getElem?_eq_getElem hlt⟩
    obtain⟨gj,rfl,hgl,hcells⟩:=lqR (f:=AsT.cells) (fun _=>rfl) (by omega) HF.out.mt.traps htv ht
    have j0:=hcells 0 (by omega)
    have j1:=hcells 1 (by omega)
    have j2:=hcells 2 (by omega)
    have j3:=hcells 3 (by omega)
    simp only [AsT.cells,List.getElem?_cons_zero,List.getElem?_cons_succ,Nat.add_zero] at j0 j1 j2 j3
    have HDR:=Hq (hqK ht)
    have HA:=Hq (HF.out.below ((Below.refl _ _).alloc (Nat.le_refl _) (.cells #[.string t.lo, .string t.hi, .string t.tg, .int .i64 t.kind] 136)))
    have XT:=Hq (aqo wr2 [.string t.lo, .string t.hi, .string t.tg, .int .i64 t.kind] 136)
    have HP1:=Hq (dqq B kb _ ρ' m.labels U.lv t.lo _ HA.out.k.box rfl HA.out.mt.labs (by omega))
    have HP2:=Hq (dqq B kb _ ρ' m.labels U.lv t.hi _ HA.out.k.box rfl HA.out.mt.labs (by omega))
    have HP3:=Hq (dqq B kb _ ρ' m.labels U.lv t.tg _ HA.out.k.box rfl HA.out.mt.labs (by omega))
    obtain⟨l1,h1⟩: ∃l,bql m.labels t.lo=l:=⟨_,rfl⟩
    obtain⟨l2,h2⟩: ∃l,bql m.labels t.hi=l:=⟨_,rfl⟩
    obtain⟨l3,h3⟩: ∃l,bql m.labels t.tg=l:=⟨_,rfl⟩
    clear hcells ht
    rcases l1 with _|p1
    ·rw [dqu h1] at HP1
     have HH:=Hq h1
     obtain⟨z2,hz2⟩: ∃z,dqL m.labels t.hi=z:=⟨_,rfl⟩
     obtain⟨z3,hz3⟩: ∃z,dqL m.labels t.tg=z:=⟨_,rfl⟩
     rw [hz2] at HP2
     rw [hz3] at HP3
     clear h1 h2 h3 hz2 hz3
     have HN:=Hq (show σ.endM m=none by
      unfold AsK.endM
      rw [HC1.out]
      simp only
      rw [HJ.out,HDR.out,fqm (.inl HH.out)]
      rfl)
     go_wp2_with (first| (go_at_call 67;with_reducible refine HP1.out.mono ?_;rintro e w2 ⟨rfl,rfl⟩) | (go_at_call 67;with_reducible refine HP2.out.mono ?_;rintro e w2 ⟨rfl,rfl⟩) | (go_at_call 67;with_reducible refine HP3.out.mono ?_;rintro e w2 ⟨rfl,rfl⟩))
     go_ret
     exact⟨aqh HN.out (HA.out.chg.below HK.out.low HK.out.hB (by decide)),fun _=>HA.out.k.box.cell 12 rfl⟩
    rcases l2 with _|p2
    ·rw [cqa h1] at HP1
     rw [dqu h2] at HP2
     have HH:=Hq h2
     obtain⟨z3,hz3⟩: ∃z,dqL m.labels t.tg=z:=⟨_,rfl⟩
     rw [hz3] at HP3
     have hp1:decide ((p1:Int) <0)=false:=by rw [decide_eq_false_iff_not];omega
     clear h1 h2 h3 hz3
     have HN:=Hq (show σ.endM m=none by
      unfold AsK.endM
      rw [HC1.out]
      simp only
      rw [HJ.out,HDR.out,fqm (.inr (.inl HH.out))]
      rfl)
     go_wp2_with (first| (go_at_call 67;with_reducible refine HP1.out.mono ?_;rintro e w2 ⟨rfl,rfl⟩) | (go_at_call 67;with_reducible refine HP2.out.mono ?_;rintro e w2 ⟨rfl,rfl⟩) | (go_at_call 67;with_reducible refine HP3.out.mono ?_;rintro e w2 ⟨rfl,rfl⟩))
     go_ret
     exact⟨aqh HN.out (HA.out.chg.below HK.out.low HK.out.hB (by decide)),fun _=>HA.out.k.box.cell 12 rfl⟩
    rcases l3 with _|p3
    ·rw [cqa h1] at HP1
     rw [cqa h2] at HP2
     rw [dqu h3] at HP3
     have HH:=Hq h3
     have hp1:decide ((p1:Int) <0)=false:=by rw [decide_eq_false_iff_not];omega
     have hp2:decide ((p2:Int) <0)=false:=by rw [decide_eq_false_iff_not];omega
     clear h1 h2 h3
     have HN:=Hq (show σ.endM m=none by
      unfold AsK.endM
      rw [HC1.out]
      simp only
      rw [HJ.out,HDR.out,fqm (.inr (.inr HH.out))]
      rfl)
     go_wp2_with (first| (go_at_call 67;with_reducible refine HP1.out.mono ?_;rintro e w2 ⟨rfl,rfl⟩) | (go_at_call 67;with_reducible refine HP2.out.mono ?_;rintro e w2 ⟨rfl,rfl⟩) | (go_at_call 67;with_reducible refine HP3.out.mono ?_;rintro e w2 ⟨rfl,rfl⟩))
     go_ret
     exact⟨aqh HN.out (HA.out.chg.below HK.out.low HK.out.hB (by decide)),fun _=>HA.out.k.box.cell 12 rfl⟩
    have HJ2:=Hq (show bqL m.labels m.traps=(bqL m.labels (m.traps.drop (ts.length+1))).map ((ts++ [⟨p1,p2,p3,t.kind⟩])++ ·) by rw [HJ.out,HDR.out,gqE h1 h2 h3])
    rw [cqa h1] at HP1
    rw [cqa h2] at HP2
    rw [cqa h3] at HP3
    have hp1:decide ((p1:Int) <0)=false:=by rw [decide_eq_false_iff_not];omega
    have hp2:decide ((p2:Int) <0)=false:=by rw [decide_eq_false_iff_not];omega
    have hp3:decide ((p3:Int) <0)=false:=by rw [decide_eq_false_iff_not];omega
    have HR:=Hq HA.out.k
    have HO:=Hq HA.out.tr.1
    obtain⟨AX,kX,hxv⟩:=aqf HO.out
    have c20:=HA.out.k.box.cell 20 (show _=some tv from rfl)
    have z20:=HA.out.k.box.frozen 20
    rw [hxv] at HO c20
    have hBw:=HF.out.k.hB
    have x3:=XT.out.cell 3 rfl
    have hnk:(Value.slice AX ts.length kX).ownBlock≠some kb:=fun e=>by
     have h1:=HA.out.tr.2 kb (by rw [hxv];exact e)
     rw [HA.out.k.kc] at h1
     omega
    clear h1 h2 h3
    go_wp2_with (first| (go_at_call 67;with_reducible refine HP1.out.mono ?_;rintro e w2 ⟨rfl,rfl⟩) | (go_at_call 67;with_reducible refine HP2.out.mono ?_;rintro e w2 ⟨rfl,rfl⟩) | (go_at_call 67;with_reducible refine HP3.out.mono ?_;rintro e w2 ⟨rfl,rfl⟩))
    go_region_law (first
     | (refine aqt rfl (.tmp 118) (.tmp 125) 35 rfl Tryz.underlying35 fqa rfl (by omega) B rfl ((aqp HO.out (fun _ _=>rfl)).alloc _) rfl rfl (aqd _ _ _ _ (by first|rfl|omega| (simp<;>omega))) (by simp [Value.oneCell']) (by omega) (by simp only [maxLen];omega) (by omega) (by first|omega| (simp<;>omega)) ?_
        intro g6 cap6 W' ho hg hb hgg
        have HO6:=Hq ho
        have HG6:=Hq hg
        have X6:=Hq (show Bx W' kb (aq3 σ V++(aq4 m U).set 9 tv) 80 from(hg.block kb (by first|omega| (simp;omega)) (fun e=>hnk e.symm)).trans ((Below.heap_alloc _ _ _ (by first|omega| (simp;omega))).trans HR.out.box))
        have c6:=X6.out.cell 20 rfl
        have z6:=X6.out.frozen 20
        have HGG:=Hq hgg
        clear ho hg hb hgg))
    all_goals
     go_wp2_with fail
     have hz6:=HG6.out.size
     try simp only [World.size_alloc] at hz6
     have hnb: ∀q:Nat,tv.ownBlock≠some q→some q≠(Value.slice AX ts.length kX).ownBlock:=fun q h e=>h (by rw [hxv];exact e.symm)
     have hzw:(wr2.alloc (.cells #[.string t.lo, .string t.hi, .string t.tg, .int .i64 t.kind] 136)).heap.size+1≤W'.heap.size:=by first|exact hz6|exact Nat.le_trans (Nat.le_of_eq (World.size_alloc _ _).symm) hz6| (simp at hz6⊢;omega)
     have hgv:tv.ownBlock=some g6∨(wr2.alloc (.cells #[.string t.lo, .string t.hi, .string t.tg, .int .i64 t.kind] 136)).heap.size≤g6:=by
      rcases HGG.out with e|e
      ·exact .inl (by rw [hxv];exact e)
      right
      first|omega| (simp at e⊢;omega)
     have hgk:g6≠kb:=by
      rintro rfl
      rcases hgv with e|e
      ·exact absurd ((HA.out.tr.2 _ e).symm.trans HR.out.kc) (by decide)
      have:=HR.out.box.lt
      omega
     obtain⟨hC,hlo,hkc,hoc⟩:=HR.out.addR (w':=W'.setCell ⟨kb,20,none⟩ (.slice (some ⟨g6,0,none⟩) (ts.length+1) cap6)) (c:=13) HG6.out.os HG6.out.tape HG6.out.output (by simp at hzw⊢;omega) HA.out.tr.2
      (fun q hq h1 h2=> (Below.heap_setCell _ _ _ _ h1).trans ((HG6.out.block q (by first|omega| (simp at hq⊢;omega)) (hnb q h2)).trans (Below.heap_alloc _ _ _ hq))) (X6.out.set 20 _) (aqY HO6.out hgk _) hgv (by decide)
     have HF2:=Hq (show FnT w ρ B kb σ V m U code (ts++ [⟨p1,p2,p3,t.kind⟩]) _ (paint ρ' g6 13) (.slice (some ⟨g6,0,none⟩) (ts.length+1) cap6) from⟨HR.out.turn hC hlo hkc (X6.out.set 20 _) rfl rfl rfl rfl rfl (by intro c h1 h2 hm;simp at hm;omega),HA.out.mt.keep hC (by intro c h1 h2 hm;simp at hm;omega),⟨bqq hoc.1 (by simp) (by simp [bq2.cells]),hoc.2⟩,HA.out.chg.trans (hC.mono (by simp))⟩)
     clear hC hlo hkc hoc
     go_roundw
     case rel=>exact⟨ts.length+1,_,_,_,by go_num,by omega,by simp,HJ2,HF2⟩
     case measure=>simp [RowKit.intOf];omega
   have hkt:ts.length=m.traps.length:=by omega
   have HE:=Hq (show σ.endM m=some { σ with m:=none,c:={ σ.c with mths:=σ.c.mths++ [{ m.mv with code:=code,traps:=ts }] } } by
    unfold AsK.endM
    rw [HC1.out]
    simp only
    rw [HJ.out,hkt,List.drop_length,bqL]
    simp)
   have hlt3: ¬(ts.length:Int) < (m.traps.length:Int):=by omega
   obtain⟨ms,hm1,hm2,hm3⟩:=HF.out.k.mths
   have HM1:=Hq hm1
   have HM2:=Hq hm2
   have HM3:=Hq hm3
   have hml:ms.length≤900000:=by
    have h1:=congrArg List.length hm1
    rw [List.length_map] at h1
    omega
   have HO:=Hq hm2.1
   have HR:=Hq HF.out.k
   obtain⟨AX,kX,hxv⟩:=aqf HO.out
   have c8:=HF.out.k.box.cell 8 (show _=some V.tv from rfl)
   have z8:=HF.out.k.box.frozen 8
   rw [hxv] at HO c8
   have hBw:=HF.out.k.hB
   have k13:=HF.out.k.box.cell 13 (show _=some (.int .i64 m.mv.acc) from rfl)
   have k14:=HF.out.k.box.cell 14 (show _=some (.int .i64 m.mv.name) from rfl)
   have k15:=HF.out.k.box.cell 15 (show _=some (.int .i64 m.mv.desc) from rfl)
   have k16:=HF.out.k.box.cell 16 (show _=some (.bool m.mv.has) from rfl)
   have k17:=HF.out.k.box.cell 17 (show _=some (.int .i64 m.mv.stack) from rfl)
   have k18:=HF.out.k.box.cell 18 (show _=some (.int .i64 m.mv.locals) from rfl)
   have k19:=HF.out.k.box.cell 19 (show _=some U.cv from rfl)
   have k20:=HF.out.k.box.cell 20 (show _=some tv from rfl)
   obtain⟨AC,kC,hcv⟩:=aqf HM.out.code.1
   obtain⟨AT2,kT2,htv2⟩:=aqf HF.out.tr.1
   have hTV:=Hq (show tv= .slice AT2 ts.length kT2 from htv2)
   rw [hcv] at k19
   rw [htv2] at k20
   have hnk:(Value.slice AX ms.length kX).ownBlock≠some kb:=fun e=>by
    have h1:=HM2.out.2 kb (by rw [hxv];exact e)
    rw [HR.out.kc] at h1
    omega
   clear hm1 hm2 hm3 hkt
   go_wp2_with fail
   go_region_law (first
    | (refine aqt rfl (.tmp 135) (.tmp 140) 26 rfl Tryz.underlying26 bq7 rfl (by omega) B rfl ((aqp HO.out (fun _ _=>rfl)).alloc _) rfl rfl (aqd _ _ _ _ (by first|rfl|omega| (simp<;>omega))) (by simp [Value.oneCell']) (by omega) (by simp only [maxLen];omega) (by omega) (by first|omega| (simp<;>omega)) ?_
       intro g6 cap6 W' ho hg hb hgg
       have HO6:=Hq ho
       have HG6:=Hq hg
       have X6:=Hq (show Bx W' kb (aq3 σ V++(aq4 m U).set 9 tv) 80 from(hg.block kb (by first|omega| (simp;omega)) (fun e=>hnk e.symm)).trans ((Below.heap_alloc _ _ _ (by first|omega| (simp;omega))).trans HR.out.box))
       have c6:=X6.out.cell 8 rfl
       have z6:=X6.out.frozen 8
       have HGG:=Hq hgg
       clear ho hg hb hgg))
   all_goals
    go_wp2_with fail
    go_ret
    have hz6:=HG6.out.size
    try simp only [World.size_alloc] at hz6
    have hzw:wr2.heap.size+1≤W'.heap.size:=by first|exact hz6|exact Nat.le_trans (Nat.le_of_eq (World.size_alloc _ _).symm) hz6
    have hnb: ∀q:Nat,V.tv.ownBlock≠some q→some q≠(Value.slice AX ms.length kX).ownBlock:=fun q h e=>h (by rw [hxv];exact e.symm)
    have hgv:V.tv.ownBlock=some g6∨wr2.heap.size≤g6:=by
     rcases HGG.out with e|e
     ·exact .inl (by rw [hxv];exact e)
     right
     first|omega| (simp at e;omega)
    have hgk:g6≠kb:=by
     rintro rfl
     rcases hgv with e|e
     ·exact absurd ((HM2.out.2 _ e).symm.trans HR.out.kc) (by decide)
     omega
    have hsh:=iq4 wr2 ρ'
    have hKs:=HR.out.keep hsh (iq5 HR.out.low) (by intro c h1 h2 hm;simp at hm;omega)
    have hm2:eqo wr2 (iqn ρ') B 37 8 V.tv ms.length (aq8 ms) 6:=hsh.own HM2.out (by decide)
    have hm3: ∀q∈ms,fqM wr2 (iqn ρ') q.1 q.2.1 q.2.2:=fun q hq=> ⟨hsh.sl (by decide) (HM3.out q hq).hcode,hsh.sl (by decide) (HM3.out q hq).htraps,hsh.soft (by decide) (HM3.out q hq).soft⟩
    have hms:fqM wr2 (iqn ρ') { m.mv with code:=code,traps:=ts } U.cv tv:=⟨bqJ HF.out.mt.code.1 _ (by omega) (by show code.length≤_;omega) fun g hg=>by
     unfold iqn
     rw [if_pos (.inl (HF.out.mt.code.2 g hg))],bqJ HF.out.tr.1 _ (by omega) (by omega) fun g hg=>by
     unfold iqn
     rw [if_pos (.inr (HF.out.tr.2 g hg))],iqV HF.out.mt.code fun g hg=>by
     unfold iqn
     rw [if_pos (.inl hg)]⟩
    obtain⟨ρ2,tv',hM,hC⟩:=hKs.addM (x:={ m.mv with code:=code,traps:=ts }) (cv:=U.cv) (tv:=tv) (w':=W'.setCell ⟨kb,8,none⟩ (.slice (some ⟨g6,0,none⟩) (ms.length+1) cap6)) (g:=g6) (cap:=cap6) HG6.out.os HG6.out.tape HG6.out.output (by simp;omega) HM1.out hm2 hm3
     (fun q hq h1 h2=> (Below.heap_setCell _ _ _ _ h1).trans ((HG6.out.block q (by first|omega| (simp;omega)) (hnb q h2)).trans (Below.heap_alloc _ _ _ hq))) (X6.out.set 8 _) (aqY (show W'.ownsRow B 37 8 _ (ms.length+1) (aq8 ms++({ m.mv with code:=code,traps:=ts }:aqA).cells U.cv tv) by rw [hcv,hTV.out];exact HO6.out) hgk _) hms hgv
    refine⟨?_,fun h=>by rw [HE.out] at h;cases h⟩
    refine aqs (V':={ V with tv:=tv' }) (t':=(aq4 m U).set 9 tv) HE.out ?_ trivial ((HF.out.chg.mono (by simp)).trans ((hsh.mono (by simp)).trans (hC.mono (by simp))))
    have hm0:=HM0.out
    obtain⟨sc,sp,sl,sm⟩:=σ
    simp only at hm0
    subst hm0
    exact hM
end Go.Proofs.YtlcidkiplidamaaGreatDoor
