/-
  What the laws rest on, part 22: walks of the program's functions and plain laws. Conditions: none but those that each theorem names.
-/
import Derived.Test.YtlcidkiplidamaaGreatDoorB21
import Derived.Test.YtlcidkiplidamaaGreatDoorB17
import Derived.Test.YtlcidkiplidamaaGreatDoorB03
import Derived.Test.YtlcidkiplidamaaGreatDoorB00
set_option linter.unusedSimpArgs false
set_option linter.unusedVariables false
set_option maxRecDepth 100000
set_option maxHeartbeats 2000000
namespace Go.Proofs.YtlcidkiplidamaaGreatDoor
open Go Go.RowKit Lib Go.Maps
theorem mq6 (p1 q8 kb line b off n cap:Nat) (vs:List Value) (s:ByteArray) (w:World) (h1:w.cell? ⟨p1,0,none⟩=some (.pointer (some ⟨kb,0,none⟩))) (hk:Bx w kb vs 67) (hv:vs[11]?=some (.int .i64 line)) (h8:Bx w q8 [.slice (some ⟨b,off,none⟩) n cap] 43)
  (hn:0<n) (hle:n≤cap) (hmx:cap≤9223372036854775807) (hs:w.cell? ⟨b,off,none⟩=some (.string s)):
  Calls Tryz.prog 131 #[.pointer (some ⟨p1,0,none⟩), .pointer (some ⟨q8,0,none⟩)] w fun e w'=>e= .returned (.string s)∧ ∃A',(1<n→A'=some ⟨b,off+1,none⟩)∧w'=w.setCell ⟨q8,0,none⟩ (.slice A' (n - 1) (cap - 1)):=by
 have HK:=Hq hk
 have c8:=h8.cell 0 rfl
 have z8:=h8.frozen 0
 have hd:decide ((0:Int) < (n:Int))=true:=by rw [decide_eq_true_eq];omega
 clear hk h8
 rcases Nat.lt_or_ge 1 cap with hc|hc
 ·go_enter Tryz.func131,Tryz.ntmps131
  go_wp2_with (go_at_call 26;refine aqa ?_)
  refine aqb ?_
  refine(aq0 kb vs line _ HK.out hv).mono ?_
  rintro e w1 ⟨rfl,rfl⟩
  go_wp2_with fail
  go_ret
  exact⟨rfl,_,fun _=>rfl,rfl⟩
 obtain rfl:cap=1:=by omega
 obtain rfl:n=1:=by omega
 go_enter Tryz.func131,Tryz.ntmps131
 go_wp2_with (go_at_call 26;refine aqa ?_)
 refine aqb ?_
 refine(aq0 kb vs line _ HK.out hv).mono ?_
 rintro e w1 ⟨rfl,rfl⟩
 go_wp2_with fail
 go_ret
 exact⟨rfl,_,fun h=>absurd h (by omega),rfl⟩
theorem MtC.addB {w w':World} {ρ:Nat→Nat} {B xb:Nat} {m:AsM} {U:MtV} {x:UInt8} {g cap:Nat} (h:MtC w ρ B xb m U) (hlow:Low w ρ B) (hos:w'.os=w.os) (htp:w'.tape=w.tape) (hou:w'.output=w.output) (hsz:w.heap.size≤w'.heap.size)
  (hkeep: ∀q,q<w.heap.size→q≠xb→U.cv.ownBlock≠some q→w'.heap[q]?=w.heap[q]?) (hbox:Bx w' xb ((bqx m U).set 6 (.slice (some ⟨g,0,Option.none⟩) (m.mv.code.length+1) cap)) 73)
  (hrow:w'.ownsRow B 5 1 (.slice (some ⟨g,0,Option.none⟩) (m.mv.code.length+1) cap) (m.mv.code.length+1) (m.mv.code.map bV++ [bV x])) (hg:U.cv.ownBlock=some g∨w.heap.size≤g):
  ∃(ρ':Nat→Nat) (cv':Value),MtC w' ρ' B xb { m with mv:={ m.mv with code:=m.mv.code++ [x] } } { U with cv:=cv' }∧Chg [8,10] w ρ w' ρ'∧Low w' ρ' B:=by
 have hC:Chg [8,10] w ρ w' (paint ρ g 10):=⟨hos,htp,hou,hsz,fun q hq hr=>by
  refine⟨hkeep q hq (by rintro rfl;exact hr (by rw [h.xc];simp)) (fun e=>hr (by rw [h.code.2 q e];simp)),aqi ?_⟩
  rintro rfl
  rcases hg with e|e
  ·exact hr (by rw [h.code.2 _ e];simp)
  omega⟩
 have hgr:ρ g=10∨w.heap.size≤g:=hg.imp (fun e=>h.code.2 g e) id
 have hxl:=h.box.lt
 have hll:=h.lab.lt
 refine⟨paint ρ g 10, .slice (some ⟨g,0,Option.none⟩) (m.mv.code.length+1) cap,⟨hbox, ?_,h.lab.keep (hC.blk _ hll (by rw [h.lc];decide)).1, ?_,⟨bqq hrow (by simp) (by simp),fun q hq=> ?_⟩,hC.own h.jumps (by decide),hC.own h.traps (by decide),h.none⟩,hC,cqe hlow hsz (hrow.lt g rfl)⟩
 ·rw [aqi]
  ·exact h.xc
  rintro rfl
  rcases hgr with e|e
  ·rw [h.xc] at e;omega
  omega
 ·show paint ρ g 10 U.lb=9
  rw [aqi]
  ·exact h.lc
  rintro rfl
  rcases hgr with e|e
  ·rw [h.lc] at e;omega
  omega
 obtain rfl:g=q:=by simpa [Value.ownBlock] using hq
 exact aqW _ _ _
theorem aqu:(Tryz.prog.info? 5).map (fun i=> (i.zero,i.size,i.bytes))=some (some (.int .u8 0),1,1):=by kernel_rfl
def PPost (w:World) (ρ:Nat→Nat) (B xb:Nat) (m:AsM) (U:MtV) (l:List UInt8) (e:Ending) (w':World):Prop:=
 e= .returned (.tuple #[])∧ ∃(ρ':Nat→Nat) (cv':Value),MtC w' ρ' B xb { m with mv:={ m.mv with code:=m.mv.code++l } } { U with cv:=cv' }∧Chg [8,10] w ρ w' ρ'∧Low w' ρ' B
theorem aqF (x:Int):Value.int .u8 (IntKind.u8.wrap x)=bV (aqn x):=by
 have h:IntKind.u8.wrap x=x%256:=rfl
 unfold bV aqn
 rw [h,UInt8.toNat_ofNat']
 congr 1
 omega
def jqS (n y:Int):List UInt8:=if y=1 then [aqn (n/256),aqn n] else if y=0 then [aqn n] else []
theorem oqw (p4 xb:Nat) (ρ:Nat→Nat) (B:Nat) (m:AsM) (U:MtV) (n y0:Int) (w:World) (h4:w.cell? ⟨p4,0,none⟩=some (.pointer (some ⟨xb,0,none⟩))) (hp:ρ p4=0) (h:MtC w ρ B xb m U) (hlow:Low w ρ B) (hB:B≤w.heap.size) (hl:m.mv.code.length≤999000) (hn: -9223372036854775808≤n∧n≤9223372036854775807) (hy:y0=0∨y0=1):
  Calls Tryz.prog 132 #[.int .i64 n, .int .i64 (y0+1), .pointer (some ⟨p4,0,none⟩)] w (PPost w ρ B xb m U (jqS n y0)):=by
 have H:=Hq h
 have HLW:=Hq hlow
 have H4:=Hq h4
 have hp4l:p4<w.heap.size:=World.block_lt_of_cell? _ _ h4
 have HP:=Hq hp
 clear h hlow h4 hp
 have hw8:IntKind.i64.wrap 8=8:=by kernel_rfl
 have hw0:IntKind.i64.wrap 0=0:=by kernel_rfl
 go_enter Tryz.func132,Tryz.ntmps132
 go_wp2_with fail
 go_loopw [5] (fun x wr=> ∃(y:Int) (l:List UInt8) (ρ':Nat→Nat) (cv':Value),x= .int .i64 y∧ -1≤y∧y≤1∧(l.length:Int)+y≤1∧Hid (l++jqS n y=jqS n y0)∧Hid (MtC wr ρ' B xb { m with mv:={ m.mv with code:=m.mv.code++l } } { U with cv:=cv' })∧Hid (Chg [8,10] w ρ wr ρ')∧Hid (Low wr ρ' B)) (fun x _=> (RowKit.intOf x+1).toNat)
 case atStart=>exact⟨y0, [],ρ,U.cv,by go_num,by omega,by omega,by simp;omega,Hq rfl,Hq (by simpa using H.out),Hq (Chg.refl _ _ _),HLW⟩
 case round=>
  obtain⟨wr1,hwr⟩: ∃W,W=wr:=⟨_,rfl⟩
  subst hwr
  obtain⟨y,l,ρ1,cv1,rfl,hy1,hy2,hl2,HT,HM,HC,HL⟩:=hrel
  have c6:=HM.out.box.cell 6 rfl
  have z6:=HM.out.box.frozen 6
  have hxl:=HM.out.box.lt
  have hnx:cv1.ownBlock≠some xb:=fun e=>by have h1:=HM.out.code.2 _ e;rw [HM.out.xc] at h1;omega
  have hP1:=(HC.out.blk p4 hp4l (by rw [HP.out];decide)).2.trans HP.out
  have hnp:cv1.ownBlock≠some p4:=fun e=>by have h1:=HM.out.code.2 _ e;rw [hP1] at h1;omega
  have hz:=HC.out.size
  have c4:=(HC.out.cell0 (by decide) hp4l HP.out 0).trans H4.out
  obtain⟨v1,v2,v3,v4,v5,v6,v7,v8,v9,v10,v11,v12⟩:=far xb wr1.heap.size hxl
  obtain⟨t1,t2,t3,t4,t5,t6,t7,t8,t9,t10,t11,t12⟩:=far p4 wr1.heap.size (by omega)
  obtain⟨m1,hm1⟩: ∃m1:AsM,m1={ m with mv:={ m.mv with code:=m.mv.code++l } }:=⟨_,rfl⟩
  have HME:=Hq hm1
  rw [←hm1] at HM
  have hcl:m1.mv.code.length≤999002:=by rw [hm1];show(m.mv.code++l).length≤999002;rw [List.length_append];omega
  clear hm1
  obtain rfl|rfl|rfl:y=1∨y=0∨y= -1:=by omega
  ·go_wp2_with fail
   go_region_law (first
    | (refine aqt rfl (.tmp 17) (.tmp 23) 34 rfl Tryz.underlying34 aqu rfl (by omega) B rfl ((aqp HM.out.code.1 (fun _ _=>rfl)).alloc _) rfl rfl (aqd _ _ _ _ (by first|rfl|omega| (simp<;>omega))) (by simp [Value.oneCell']) (by omega) (by simp only [maxLen];omega) (by omega) (by first|omega| (simp<;>omega)) ?_
       intro g6 cap6 W' ho hg hb hgg
       have HO6:=Hq ho
       have HG6:=Hq hg
       have X6:=Hq (show Bx W' xb (bqx m1 { U with cv:=cv1 }) 73 from(hg.block xb (by first|omega| (simp;omega)) (fun e=>hnx e.symm)).trans ((Below.heap_alloc _ _ _ (by first|omega| (simp;omega))).trans HM.out.box))
       have c6:=X6.out.cell 6 rfl
       have z6:=X6.out.frozen 6
       have d4:=(World.cell?_of_block (a:=⟨p4,0,none⟩) ((hg.block p4 (by first|omega| (simp;omega)) (fun e=>hnp e.symm)).trans (Below.heap_alloc _ _ _ (by first|omega| (simp;omega))))).trans c4
       have HGG:=Hq hgg
       clear ho hg hb hgg))
   all_goals
    have hg6:cv1.ownBlock=some g6∨wr1.heap.size≤g6:=by
     rcases HGG.out with e|e
     ·exact .inl e
     right
     first|omega| (simp at e;omega)
    have hgx:g6≠xb:=by
     rintro rfl
     rcases hg6 with e|e
     ·exact hnx e
     omega
    have hz6':wr1.heap.size+1≤W'.heap.size:=Nat.le_trans (Nat.le_of_eq (World.size_alloc wr1 _).symm) HG6.out.size
    obtain⟨ρ2,cv2,hM,hC2,hL2⟩:=HM.out.addB (x:=aqn (n/256)) (w':=W'.setCell ⟨xb,6,none⟩ (.slice (some ⟨g6,0,none⟩) (m1.mv.code.length+1) cap6)) (g:=g6) (cap:=cap6) HL.out HG6.out.os HG6.out.tape HG6.out.output (by first|omega| (simp;omega))
     (fun q hq h1 h2=> (Below.heap_setCell _ _ _ _ h1).trans ((HG6.out.block q (by first|omega| (simp;omega)) (fun e=>h2 e.symm)).trans (Below.heap_alloc _ _ _ (by first|omega| (simp;omega)))))
     (X6.out.set 6 _) (aqY (by have h:=HO6.out;rw [aqF] at h;exact h) hgx _) hg6
    have HEQ:=Hq (show({ m1 with mv:={ m1.mv with code:=m1.mv.code++ [aqn (n/256)] } }:AsM)={ m with mv:={ m.mv with code:=m.mv.code++(l++ [aqn (n/256)]) } } by rw [HME.out];simp)
    rw [HEQ.out] at hM
    have HM2:=Hq hM
    have HC2:=Hq (HC.out.trans hC2)
    have HL2:=Hq hL2
    clear hM hC2 hL2
    go_wp2_with fail
    go_roundw
    case rel=>exact⟨0,l++ [aqn (n/256)],ρ2,cv2,by go_num,by omega,by omega,by simp;omega,Hq (by rw [←HT.out,List.append_assoc];rfl),HM2,HC2,HL2⟩
    case measure=>simp [RowKit.intOf]
  ·go_wp2_with fail
   go_region_law (first
    | (refine aqt rfl (.tmp 17) (.tmp 23) 34 rfl Tryz.underlying34 aqu rfl (by omega) B rfl ((aqp HM.out.code.1 (fun _ _=>rfl)).alloc _) rfl rfl (aqd _ _ _ _ (by first|rfl|omega| (simp<;>omega))) (by simp [Value.oneCell']) (by omega) (by simp only [maxLen];omega) (by omega) (by first|omega| (simp<;>omega)) ?_
       intro g6 cap6 W' ho hg hb hgg
       have HO6:=Hq ho
       have HG6:=Hq hg
       have X6:=Hq (show Bx W' xb (bqx m1 { U with cv:=cv1 }) 73 from(hg.block xb (by first|omega| (simp;omega)) (fun e=>hnx e.symm)).trans ((Below.heap_alloc _ _ _ (by first|omega| (simp;omega))).trans HM.out.box))
       have c6:=X6.out.cell 6 rfl
       have z6:=X6.out.frozen 6
       have d4:=(World.cell?_of_block (a:=⟨p4,0,none⟩) ((hg.block p4 (by first|omega| (simp;omega)) (fun e=>hnp e.symm)).trans (Below.heap_alloc _ _ _ (by first|omega| (simp;omega))))).trans c4
       have HGG:=Hq hgg
       clear ho hg hb hgg))
   all_goals
    have hg6:cv1.ownBlock=some g6∨wr1.heap.size≤g6:=by
     rcases HGG.out with e|e
     ·exact .inl e
     right
     first|omega| (simp at e;omega)
    have hgx:g6≠xb:=by
     rintro rfl
     rcases hg6 with e|e
     ·exact hnx e
     omega
    have hz6':wr1.heap.size+1≤W'.heap.size:=Nat.le_trans (Nat.le_of_eq (World.size_alloc wr1 _).symm) HG6.out.size
    obtain⟨ρ2,cv2,hM,hC2,hL2⟩:=HM.out.addB (x:=aqn (n)) (w':=W'.setCell ⟨xb,6,none⟩ (.slice (some ⟨g6,0,none⟩) (m1.mv.code.length+1) cap6)) (g:=g6) (cap:=cap6) HL.out HG6.out.os HG6.out.tape HG6.out.output (by first|omega| (simp;omega))
     (fun q hq h1 h2=> (Below.heap_setCell _ _ _ _ h1).trans ((HG6.out.block q (by first|omega| (simp;omega)) (fun e=>h2 e.symm)).trans (Below.heap_alloc _ _ _ (by first|omega| (simp;omega)))))
     (X6.out.set 6 _) (aqY (by have h:=HO6.out;rw [aqF] at h;exact h) hgx _) hg6
    have HEQ:=Hq (show({ m1 with mv:={ m1.mv with code:=m1.mv.code++ [aqn (n)] } }:AsM)={ m with mv:={ m.mv with code:=m.mv.code++(l++ [aqn (n)]) } } by rw [HME.out];simp)
    rw [HEQ.out] at hM
    have HM2:=Hq hM
    have HC2:=Hq (HC.out.trans hC2)
    have HL2:=Hq hL2
    clear hM hC2 hL2
    go_wp2_with fail
    go_roundw
    case rel=>exact⟨-1,l++ [aqn (n)],ρ2,cv2,by go_num,by omega,by omega,by simp;omega,Hq (by rw [←HT.out,List.append_assoc];rfl),HM2,HC2,HL2⟩
    case measure=>simp [RowKit.intOf]
  go_wp2_with fail
  refine⟨rfl, .tuple #[],by simp [results,Tryz.results132],rfl,ρ1,cv1, ?_,HC.out,HL.out⟩
  have e:l=jqS n y0:=by
   have h:=HT.out
   have e2:jqS n (-1)= []:=rfl
   rw [e2,List.append_nil] at h
   exact h
  rw [←e]
  have h:=HM.out
  rw [HME.out] at h
  exact h
set_option maxHeartbeats 1000000
theorem lql:(Tryz.prog.info? 176).map (fun i=> (i.zero,i.size,i.bytes))=some (some (.agg #[.int .i64 0, .int .i64 0, .string ⟨#[]⟩]),3,32):=by kernel_rfl
theorem fqa:(Tryz.prog.info? 112).map (fun i=> (i.zero,i.size,i.bytes))=some (some (.agg #[.int .i64 0, .int .i64 0, .int .i64 0, .int .i64 0]),4,32):=by kernel_rfl
theorem MtC.addJ {w w':World} {ρ:Nat→Nat} {B xb:Nat} {m:AsM} {U:MtV} {x:AsF} {g cap:Nat} (h:MtC w ρ B xb m U) (hlow:Low w ρ B) (hos:w'.os=w.os) (htp:w'.tape=w.tape) (hou:w'.output=w.output) (hsz:w.heap.size≤w'.heap.size)
  (hkeep: ∀q,q<w.heap.size→q≠xb→U.jv.ownBlock≠some q→w'.heap[q]?=w.heap[q]?) (hbox:Bx w' xb ((bqx m U).set 11 (.slice (some ⟨g,0,Option.none⟩) (m.jumps.length+1) cap)) 73)
  (hrow:w'.ownsRow B 176 3 (.slice (some ⟨g,0,Option.none⟩) (m.jumps.length+1) cap) (m.jumps.length+1) (m.jumps.flatMap AsF.cells++x.cells)) (hg:U.jv.ownBlock=some g∨w.heap.size≤g):
  ∃(ρ':Nat→Nat) (jv':Value),MtC w' ρ' B xb { m with jumps:=m.jumps++ [x] } { U with jv:=jv' }∧Chg [8,11] w ρ w' ρ'∧Low w' ρ' B:=by
 have hC:Chg [8,11] w ρ w' (paint ρ g 11):=⟨hos,htp,hou,hsz,fun q hq hr=>by
  refine⟨hkeep q hq (by rintro rfl;exact hr (by rw [h.xc];simp)) (fun e=>hr (by rw [h.jumps.2 q e];simp)),aqi ?_⟩
  rintro rfl
  rcases hg with e|e
  ·exact hr (by rw [h.jumps.2 _ e];simp)
  omega⟩
 have hgr:ρ g=11∨w.heap.size≤g:=hg.imp (fun e=>h.jumps.2 g e) id
 have hxl:=h.box.lt
 have hll:=h.lab.lt
 refine⟨paint ρ g 11, .slice (some ⟨g,0,Option.none⟩) (m.jumps.length+1) cap,⟨hbox, ?_,h.lab.keep (hC.blk _ hll (by rw [h.lc];decide)).1, ?_,hC.own h.code (by decide),⟨bqq hrow (by simp) (by simp),fun q hq=> ?_⟩,hC.own h.traps (by decide),h.none⟩,hC,cqe hlow hsz (hrow.lt g rfl)⟩
 ·rw [aqi]
  ·exact h.xc
  rintro rfl
  rcases hgr with e|e
  ·rw [h.xc] at e;omega
  omega
 ·show paint ρ g 11 U.lb=9
  rw [aqi]
  ·exact h.lc
  rintro rfl
  rcases hgr with e|e
  ·rw [h.lc] at e;omega
  omega
 obtain rfl:g=q:=by simpa [Value.ownBlock] using hq
 exact aqW _ _ _
theorem MtC.setB {w:World} {ρ:Nat→Nat} {B xb:Nat} {m:AsM} {U:MtV} {g n cap:Nat} (h:MtC w ρ B xb m U) (hcv:U.cv= .slice (some ⟨g,0,Option.none⟩) n cap) (i:Nat) (x:UInt8):MtC (w.setCell ⟨g,i,Option.none⟩ (bV x)) ρ B xb { m with mv:={ m.mv with code:=m.mv.code.set i x } } U∧Chg [10] w ρ (w.setCell ⟨g,i,Option.none⟩ (bV x)) ρ:=by
 have hg:ρ g=10:=h.code.2 g (by rw [hcv];rfl)
 have hC:Chg [10] w ρ (w.setCell ⟨g,i,Option.none⟩ (bV x)) ρ:=⟨rfl,rfl,rfl,by simp,fun q hq hr=> ⟨Below.heap_setCell _ _ _ _ (by rintro rfl;exact hr (by rw [hg];simp)),rfl⟩⟩
 refine⟨⟨?_,h.xc,h.lab.keep (hC.blk _ h.lab.lt (by rw [h.lc];decide)).1,h.lc,⟨?_,h.code.2⟩,hC.own h.jumps (by decide),hC.own h.traps (by decide),h.none⟩,hC⟩
 ·have e:bqx { m with mv:={ m.mv with code:=m.mv.code.set i x } } U=bqx m U:=rfl
  rw [e]
  exact hC.bx h.box (by rw [h.xc];decide)
 have hrow:=h.code.1
 have hn:n=m.mv.code.length:=by
  obtain⟨A',c',e⟩:=aqf hrow
  rw [hcv] at e
  injection e
 subst hn
 rw [hcv] at hrow⊢
 have hs:=hrow.stored i (bV x)
 exact bqq hs.1 (by simp) (by simp [List.map_set])
def iqn (ρ:Nat→Nat):Nat→Nat:=fun g=>if ρ g=10∨ρ g=13 then 7 else ρ g
theorem iq4 (w:World) (ρ:Nat→Nat):Chg [10,13] w ρ w (iqn ρ):=⟨rfl,rfl,rfl,Nat.le_refl _,fun g hg hc=> ⟨rfl,if_neg (by
 intro h
 exact hc (by rcases h with h|h<;>simp [h]))⟩⟩
theorem iq5 {w:World} {ρ:Nat→Nat} {B:Nat} (h:Low w ρ B):Low w (iqn ρ) B:=fun g hg=>h g (by
 intro e
 apply hg
 unfold iqn
 rw [e]
 simp)
theorem jqT (p2 xb line:Nat) (vs:List Value) (w:World) (h2:w.cell? ⟨p2,0,none⟩=some (.pointer (some ⟨xb,0,none⟩))) (h:Bx w xb vs 73) (hv:vs[8]?=some (.int .i64 line)):
  Calls Tryz.prog 125 #[.pointer (some ⟨p2,0,none⟩)] w fun e w'=>e= .panicked [{ v:=cqg line 60,recovered:=false }]∧w'=w:=by
 have c8:=h.cell 8 hv
 clear h
 go_enter Tryz.func125,Tryz.ntmps125
 go_wp2
 exact⟨rfl,rfl,rfl⟩
theorem mq7 (p2 p3 xb lb:Nat) (labels:List (List UInt8×Nat)) (vs:List Value) (s:ByteArray) (p:Nat) (w:World) (h2:w.cell? ⟨p2,0,none⟩=some (.pointer (some ⟨xb,0,none⟩))) (h:Bx w xb vs 73) (hv:vs[10]?=some (.map (some lb))) (hl:iqW w lb labels) (hs:s.size≤maxLen) (hp:bql labels s=some p):
  Calls Tryz.prog 126 #[.string s, .pointer (some ⟨p2,0,none⟩), .pointer (some ⟨p3,0,none⟩)] w fun e w'=>e= .returned (.int .i64 p)∧w'=w:=by
 have c10:=h.cell 10 hv
 obtain⟨n,f,sz,_,hM,hf⟩:=hl
 have hfs:f s.data.toList=some (.int .i64 p):=by
  have:=hf s.data.toList
  rw [this,show(⟨s.data.toList.toArray⟩:ByteArray)=s from rfl,hp]
  rfl
 have HM:=Hq hM
 clear h hM hf hp
 go_enter Tryz.func126,Tryz.ntmps126
 go_wp2_with (refine dqw rfl _ _ rfl Tryz.underlying9 Tryz.underlying69 (z:= .int .i64 0) (by kernel_rfl) rfl HM.out rfl hs ?_;rw [hfs])
 go_ret
 exact⟨rfl,rfl⟩
theorem oqx (p2 p3 xb lb line:Nat) (labels:List (List UInt8×Nat)) (vs:List Value) (s:ByteArray) (w:World) (h2:w.cell? ⟨p2,0,none⟩=some (.pointer (some ⟨xb,0,none⟩))) (h3:w.cell? ⟨p3,0,none⟩=some (.func (.func 125) #[] #[.pointer (some ⟨p2,0,none⟩)])) (h:Bx w xb vs 73) (hv8:vs[8]?=some (.int .i64 line)) (hv:vs[10]?=some (.map (some lb))) (hl:iqW w lb labels) (hs:s.size≤maxLen) (hp:bql labels s=none):
  Calls Tryz.prog 126 #[.string s, .pointer (some ⟨p2,0,none⟩), .pointer (some ⟨p3,0,none⟩)] w fun e w'=>e= .panicked [{ v:=cqg line 60,recovered:=false }]∧w'=w:=by
 have c10:=h.cell 10 hv
 have HX:=Hq h
 obtain⟨n,f,sz,_,hM,hf⟩:=hl
 have hfs:f s.data.toList=none:=by
  have:=hf s.data.toList
  rw [this,show(⟨s.data.toList.toArray⟩:ByteArray)=s from rfl,hp]
  rfl
 have HM:=Hq hM
 have H2:=Hq h2
 have HV8:=Hq hv8
 clear h hM hf hp hv8
 go_enter Tryz.func126,Tryz.ntmps126
 go_wp2_with (first| (refine dqw rfl _ _ rfl Tryz.underlying9 Tryz.underlying69 (z:= .int .i64 0) (by kernel_rfl) rfl HM.out rfl hs ?_;rw [hfs]) | (go_at_call 125;refine aqa ?_))
 refine aqb ?_
 refine(jqT p2 xb line vs _ H2.out HX.out HV8.out).mono ?_
 rintro e w1 ⟨rfl,rfl⟩
 go_wp2_with fail
 exact(show _∧_ from⟨rfl,rfl,rfl⟩)
structure MtT (w:World) (ρ:Nat→Nat) (B xb:Nat) (m:AsM) (U:MtV) (tv:Value) (ts:List bq2):Prop where
 box:Bx w xb ((bqx m U).set 7 tv) 73
 xc:ρ xb=8
 lab:iqW w U.lb m.labels
 lc:ρ U.lb=9
 code:eqo w ρ B 5 1 U.cv m.mv.code.length (m.mv.code.map bV) 10
 traps:eqo w ρ B 127 4 U.tv m.traps.length (m.traps.flatMap AsT.cells) 12
 tr:eqo w ρ B 112 4 tv ts.length (ts.flatMap bq2.cells) 13
theorem MtC.toT {w:World} {ρ:Nat→Nat} {B xb:Nat} {m:AsM} {U:MtV} (h:MtC w ρ B xb m U):MtT w ρ B xb m U (.slice Option.none 0 0) []:=
 ⟨h.box,h.xc,h.lab,h.lc,h.code,h.traps,aqN _ _ _ _ _ _⟩
theorem MtT.keep {cs:List Nat} {w w':World} {ρ ρ':Nat→Nat} {B xb:Nat} {m:AsM} {U:MtV} {tv:Value} {ts:List bq2} (h:MtT w ρ B xb m U tv ts) (k:Chg cs w ρ w' ρ') (hc: ∀c,8≤c→c≤13→c∉cs):MtT w' ρ' B xb m U tv ts where
 box:=k.bx h.box (by rw [h.xc];exact hc 8 (by omega) (by omega))
 xc:=(k.blk xb h.box.lt (by rw [h.xc];exact hc 8 (by omega) (by omega))).2.trans h.xc
 lab:=h.lab.keep (k.blk U.lb h.lab.lt (by rw [h.lc];exact hc 9 (by omega) (by omega))).1
 lc:=(k.blk U.lb h.lab.lt (by rw [h.lc];exact hc 9 (by omega) (by omega))).2.trans h.lc
 code:=k.own h.code (hc 10 (by omega) (by omega))
 traps:=k.own h.traps (hc 12 (by omega) (by omega))
 tr:=k.own h.tr (hc 13 (by omega) (by omega))
theorem MtT.below {w w':World} {ρ:Nat→Nat} {B xb:Nat} {m:AsM} {U:MtV} {tv:Value} {ts:List bq2} (h:MtT w ρ B xb m U tv ts) (hb:Below w.heap.size w w'):MtT w' ρ B xb m U tv ts:=h.keep (Chg.of_below (cs:= []) hb) (by simp)
theorem MtT.add {w w':World} {ρ:Nat→Nat} {B xb:Nat} {m:AsM} {U:MtV} {tv:Value} {ts:List bq2} {x:bq2} {g cap:Nat} (h:MtT w ρ B xb m U tv ts) (hlow:Low w ρ B) (hos:w'.os=w.os) (htp:w'.tape=w.tape) (hou:w'.output=w.output) (hsz:w.heap.size≤w'.heap.size)
  (hkeep: ∀q,q<w.heap.size→q≠xb→tv.ownBlock≠some q→w'.heap[q]?=w.heap[q]?) (hbox:Bx w' xb (((bqx m U).set 7 tv).set 7 (.slice (some ⟨g,0,Option.none⟩) (ts.length+1) cap)) 73)
  (hrow:w'.ownsRow B 112 4 (.slice (some ⟨g,0,Option.none⟩) (ts.length+1) cap) (ts.length+1) (ts.flatMap bq2.cells++x.cells)) (hg:tv.ownBlock=some g∨w.heap.size≤g):
  ∃(ρ':Nat→Nat) (tv':Value),MtT w' ρ' B xb m U tv' (ts++ [x])∧Chg [8,13] w ρ w' ρ'∧Low w' ρ' B:=by
 have hC:Chg [8,13] w ρ w' (paint ρ g 13):=⟨hos,htp,hou,hsz,fun q hq hr=>by
  refine⟨hkeep q hq (by rintro rfl;exact hr (by rw [h.xc];simp)) (fun e=>hr (by rw [h.tr.2 q e];simp)),aqi ?_⟩
  rintro rfl
  rcases hg with e|e
  ·exact hr (by rw [h.tr.2 _ e];simp)
  omega⟩
 have hgr:ρ g=13∨w.heap.size≤g:=hg.imp (fun e=>h.tr.2 g e) id
 have hxl:=h.box.lt
 have hll:=h.lab.lt
 refine⟨paint ρ g 13, .slice (some ⟨g,0,Option.none⟩) (ts.length+1) cap,⟨?_, ?_,h.lab.keep (hC.blk _ hll (by rw [h.lc];decide)).1, ?_,hC.own h.code (by decide),hC.own h.traps (by decide),⟨bqq hrow (by simp) (by simp),fun q hq=> ?_⟩⟩,hC,cqe hlow hsz (hrow.lt g rfl)⟩
 ·exact hbox
 ·rw [aqi]
  ·exact h.xc
  rintro rfl
  rcases hgr with e|e
  ·rw [h.xc] at e;omega
  omega
 ·rw [aqi]
  ·exact h.lc
  rintro rfl
  rcases hgr with e|e
  ·rw [h.lc] at e;omega
  omega
 obtain rfl:g=q:=by simpa [Value.ownBlock] using hq
 exact aqW _ _ _
theorem jqU {w:World} {ρ:Nat→Nat} {B xb:Nat} {m:AsM} {U:MtV} {ts:List bq2} {tv:Value} (h:MtT w ρ B xb m U tv ts) (hc:m.mv.code.length≤1048576) (hl:ts.length≤1048576):
  fqM w (iqn ρ) { m.mv with traps:=ts } U.cv tv:=
 ⟨bqJ h.code.1 _ (by omega) hc fun g hg=>by
  unfold iqn
  rw [if_pos (.inl (h.code.2 g hg))],bqJ h.tr.1 _ (by omega) hl fun g hg=>by
  unfold iqn
  rw [if_pos (.inr (h.tr.2 g hg))],iqV h.code fun g hg=>by
  unfold iqn
  rw [if_pos (.inl hg)]⟩
theorem gqE {labels:List (List UInt8×Nat)} {t:AsT} {l:List AsT} {a b c:Nat} {ts:List bq2} (h1:bql labels t.lo=some a) (h2:bql labels t.hi=some b) (h3:bql labels t.tg=some c):
  (bqL labels (t::l)).map (ts++ ·)=(bqL labels l).map ((ts++ [⟨a,b,c,t.kind⟩])++ ·):=by
 rw [bqL,h1,h2,h3]
 cases bqL labels l<;>simp
theorem fqm {labels:List (List UInt8×Nat)} {t:AsT} {l:List AsT} (h:bql labels t.lo=none∨bql labels t.hi=none∨bql labels t.tg=none):bqL labels (t::l)=none:=by
 rw [bqL]
 split
 ·rename_i h1 h2 h3
  rcases h with h|h|h<;>simp_all
 rfl
end Go.Proofs.YtlcidkiplidamaaGreatDoor
namespace Go.Proofs.YtlcidkiplidamaaGreatDoor
open Go Go.RowKit Lib
structure mq8 (x:AsI) (N c0:Nat):Prop where
 k:cqB x.k N
 code:x.code.length≤N
 more:c0≤x.code.length
 jumps:x.jumps.length≤N
 jump: ∀j∈x.jumps,j.at'+1<x.code.length∧j.fr≤N∧j.lab.size≤65536
 rest:SmW x.rest
theorem jqV {name:List UInt8} {begin c0:Nat} {x y:AsI} {c:UInt8} {N:Nat} (h:mq8 x N c0) (hN:N≤1000000) (hb:begin≤N) (he:cqr name begin x c=some y):mq8 y (N+6) c0:=by
 have hr:=h.rest
 have hc:=h.code
 have hm:=h.more
 have hj:=h.jumps
 have hk:=h.k.mono (N':=N+6) (by omega)
 have hdr: ∀n,SmW (x.rest.drop n):=fun n=>hr.drop n
 have hold: ∀(code:List UInt8),x.code.length≤code.length→ ∀j∈x.jumps,j.at'+1<code.length∧j.fr≤N+6∧j.lab.size≤65536:=fun code hl j hjm=>by
  have:=h.jump j hjm
  omega
 unfold cqr at he
 simp only at he
 split at he
 ·rcases hd:aqz (x.rest.headD ⟨#[]⟩).data.toList (-128) 127 with _|v
  ·rw [hd] at he;cases he
  rw [hd] at he;cases he
  exact⟨hk,by simp;omega,by simp;omega,by simp;omega,hold _ (by simp),hdr 1⟩
 split at he
 ·split at he
  ·rcases hd:aqz (x.rest.headD ⟨#[]⟩).data.toList 0 255 with _|v
   ·rw [hd] at he;cases he
   rw [hd] at he;cases he
   exact⟨hk,by simp;omega,by simp;omega,by simp;omega,hold _ (by simp),hdr 1⟩
  split at he
  ·cases he
  rename_i v hv
  split at he
  ·cases he
   exact⟨(dqW h.k (cqU hv)).1.mono (by omega),by simp;omega,by simp;omega,by simp;omega,hold _ (by simp),hdr 1⟩
  cases he
 split at he
 ·rcases hd:aqz (x.rest.headD ⟨#[]⟩).data.toList (-32768) 32767 with _|v
  ·rw [hd] at he;cases he
  rw [hd] at he;cases he
  exact⟨hk,by simp [aqT];omega,by simp [aqT];omega,by simp;omega,hold _ (by simp),hdr 1⟩
 split at he
 ·cases he
  refine⟨hk,by simp;omega,by simp;omega,by simp;omega,fun j hjm=> ?_,hdr 1⟩
  rcases List.mem_append.1 hjm with hjm|hjm
  ·exact hold _ (by simp) j hjm
  obtain rfl:=List.mem_singleton.1 hjm
  exact⟨by simp,by simp;omega,hr.head⟩
 split at he
 ·cases he
  exact⟨(cqt h.k hr.head hN).1.mono (by omega),by simp [aqT];omega,by simp [aqT];omega,by simp;omega,hold _ (by simp),hdr 1⟩
 cases he
 have ht:cqF (if c=102 then 9 else if c=109 then 10 else 11):=by
  unfold cqF
  split
  ·omega
  split<;>omega
 have hif: ∀a:UInt8,(if c=105 then [a,0] else([]:List UInt8)).length≤2:=by intro a;split<;>simp
 have hif2:=hif (aqn (↑(aqk (x.rest.getD 2 ⟨#[]⟩)).1.size+1))
 generalize (if c=105 then [aqn (↑(aqk (x.rest.getD 2 ⟨#[]⟩)).1.size+1),0] else([]:List UInt8))=ex at hif2⊢
 refine⟨(cq2 h.k ht hr.head (hr.at 1) (hr.at 2) hN).1.mono (by omega), ?_, ?_,by simp;omega,hold _ ?_,hdr 3⟩
 ·simp only [aqT,List.length_append,List.length_cons,List.length_nil];omega
 ·simp only [aqT,List.length_append,List.length_cons,List.length_nil];omega
 simp only [aqT,List.length_append,List.length_cons,List.length_nil];omega
theorem fqW {name:List UInt8} {begin c0:Nat}: ∀(form:List UInt8) {x y:AsI} {N:Nat},mq8 x N c0→N+6*form.length≤1000000→begin≤N→aqL name begin form x=some y→mq8 y (N+6*form.length) c0
 | [],x,y,N,h,hN,hb,he=>by
  rw [aqL] at he
  cases he
  exact h
 |c::l,x,y,N,h,hN,hb,he=>by
  rw [aqL] at he
  simp only [List.length_cons] at hN⊢
  rcases ho:cqr name begin x c with _|z
  ·rw [ho] at he;cases he
  rw [ho] at he
  have h1:=jqV h (by omega) hb ho
  have h2:=fqW l h1 (by omega) (by omega) he
  rw [show N+6*(l.length+1)=N+6+6*l.length by omega]
  exact h2
theorem mq9 (c:Int):(aqc c).2.length≤2:=by
 unfold aqc
 split
 ·rename_i r hr
  have hm:=List.mem_of_find?_eq_some hr
  have hall: ∀r∈eqA,r.2.2.length≤2:=by decide+kernel
  exact hall r hm
 simp
theorem iqo {σ σ':AsK} {m:AsM} {N:Nat} {w:List ByteArray} (h:cqB σ N) (hm:eqJ m N) (hN:N≤900000) (hw:SmW w) (he:σ.instr m w=some σ'):cqB σ' (N+20):=by
 unfold AsK.instr at he
 simp only at he
 split at he
 ·cases he
 split at he
 ·cases he
 generalize hc:aqP (w.headD ⟨#[]⟩).data.toList=code at he
 rcases ho:aqL (aqc code).1 m.mv.code.length (aqc code).2 ⟨σ,m.mv.code++ [aqn code],m.jumps,w.drop 1⟩ with _|y
 ·rw [ho] at he;cases he
 rw [ho] at he
 cases he
 have hf:=mq9 code
 have hmc:=hm.code
 have h1:=fqW (c0:=0) (N:=N+1) _ (x:=⟨σ,m.mv.code++ [aqn code],m.jumps,w.drop 1⟩) ⟨h.mono (by omega),by simp;omega,by simp,by have:=hm.jumps;simp;omega,fun j hj=>by
  have:=hm.jump j hj
  refine⟨?_, ?_,this.2.2⟩
  ·simp;omega
  omega,hw.drop 1⟩ (by omega) (by omega) ho
 have h2:N+1+6*(aqc code).2.length≤N+20:=by omega
 have h3:=h1.k.mono h2
 refine⟨h3.npool,h3.nifs,h3.nflds,h3.nmths,h3.pool,h3.this,h3.sup,h3.ifs,h3.flds,h3.mths,h3.part,fun m' hm'=> ?_⟩
 cases hm'
 have hm2:=hm.mono (N':=N+20) (by omega)
 exact⟨Nat.le_trans h1.code h2,hm2.labels,Nat.le_trans h1.jumps h2,hm2.traps,hm2.places,fun j hj=> ⟨(h1.jump j hj).1,Nat.le_trans (h1.jump j hj).2.1 h2,(h1.jump j hj).2.2⟩,hm2.kinds,hm2.none,⟨hm2.fine.1,hm2.fine.2.1,hm2.fine.2.2.1,hm2.fine.2.2.2.1,hm2.fine.2.2.2.2⟩⟩
theorem hqA (labels:List (List UInt8×Nat)): ∀(l:List AsF) (code c:List UInt8),bqO labels l code=some c→c.length=code.length
 | [],code,c,h=>by cases h;rfl
 |j::l,code,c,h=>by
  rw [bqO] at h
  split at h
  ·cases h
  simp only at h
  split at h
  ·have:=hqA labels l _ c h
   simpa using this
  cases h
theorem fqX {l:List (List UInt8×Nat)} {s:ByteArray} {N p:Nat} (hl: ∀r∈l,r.2≤N) (h:bql l s=some p):p≤N:=by
 unfold bql at h
 obtain⟨r,hr,rfl⟩:=Option.map_eq_some_iff.1 h
 exact hl r (List.mem_of_find?_eq_some hr)
theorem fqY (labels:List (List UInt8×Nat)) {N:Nat} (hl: ∀r∈labels,r.2≤N) (hN:N≤1000000): ∀(l:List AsT) (ts:List bq2),(∀t∈l,t.kind≤N)→bqL labels l=some ts→ts.length=l.length∧ ∀t∈ts,iqM t
 | [],ts,_,h=>by cases h;exact⟨rfl,by simp⟩
 |t::l,ts,hk,h=>by
  rw [bqL] at h
  split at h
  ·rename_i a b c ha hb hc
   rcases hr:bqL labels l with _|r
   ·rw [hr] at h;cases h
   rw [hr] at h
   cases h
   have ih:=fqY labels hl hN l r (fun x hx=>hk x (by simp [hx])) hr
   refine⟨by simp [ih.1],fun x hx=> ?_⟩
   rcases List.mem_cons.1 hx with rfl|hx
   ·have:=fqX hl ha
    have:=fqX hl hb
    have:=fqX hl hc
    have:=hk t (by simp)
    exact⟨aqV (by omega),aqV (by omega),aqV (by omega),aqV (by omega)⟩
   exact ih.2 x hx
  cases h
theorem jqW {σ σ':AsK} {m:AsM} {N:Nat} (h:cqB σ N) (hm:eqJ m N) (hN:N≤900000) (he:σ.endM m=some σ'):cqB σ' (N+1):=by
 unfold AsK.endM at he
 split at he
 ·cases he
 rename_i code hcode
 split at he
 ·cases he
 rename_i ts hts
 cases he
 have h1:=hqA _ _ _ _ hcode
 have h2:=fqY m.labels hm.places (by omega) _ _ (fun t ht=> (hm.kinds t ht).1) hts
 have hM:=h.mono (N':=N+1) (by omega)
 have:=hm.code
 have:=hm.traps
 refine⟨hM.npool,hM.nifs,hM.nflds, ?_,h.pool,h.this,h.sup,h.ifs,h.flds,fun x hx=> ?_,h.part,by simp⟩
 ·have:=h.nmths
  simp only [List.length_append,List.length_cons,List.length_nil]
  omega
 rcases List.mem_append.1 hx with hx|hx
 ·exact hM.mths x hx
 obtain rfl:=List.mem_singleton.1 hx
 exact⟨⟨hm.fine.1,hm.fine.2.1,hm.fine.2.2.1,hm.fine.2.2.2.1,h2.2⟩,by simp only;omega,by simp only;omega⟩
theorem eqr {m:AsM} {N:Nat} (h:eqJ m N):eqJ { m with first:=false } N:=⟨h.code,h.labels,h.jumps,h.traps,h.places,h.jump,h.kinds,h.none,h.fine⟩
theorem eqc {σ:AsK} {m:AsM} {N:Nat} (h:cqB σ N) (hm:eqJ m N):cqB { σ with m:=some m } N:=⟨h.npool,h.nifs,h.nflds,h.nmths,h.pool,h.this,h.sup,h.ifs,h.flds,h.mths,h.part,fun m' e=>by cases e;exact hm⟩
theorem hqB {σ σ':AsK} {m:AsM} {N:Nat} {w:List ByteArray} (h:cqB σ N) (ho:σ.m=some m) (hN:N≤900000) (hw:SmW w) (he:σ.inside m w= .ok σ'):cqB σ' (N+20):=by
 have hm:=h.op m ho
 have hf:=eqr hm
 have hM:=h.mono (N':=N+20) (by omega)
 have hF:=hf.mono (N':=N+20) (by omega)
 unfold AsK.inside at he
 simp only at he
 split at he
 ·split at he
  ·rcases ha:aqz (w.getD 1 ⟨#[]⟩).data.toList 0 255 with _|a
   ·rw [ha] at he;cases he
   rcases hb:aqz (w.getD 2 ⟨#[]⟩).data.toList 0 255 with _|b
   ·rw [ha,hb] at he;cases he
   rw [ha,hb] at he
   cases he
   have d1:=cqU ha
   have d2:=cqU hb
   exact eqc hM ⟨hF.code,hF.labels,hF.jumps,hF.traps,hF.places,hF.jump,hF.kinds,hF.none,⟨hF.fine.1,hF.fine.2.1,by refine⟨?_, ?_⟩ <;> (simp only;omega),by refine⟨?_, ?_⟩ <;> (simp only;omega),hF.fine.2.2.2.2⟩⟩
  cases he
 split at he
 ·split at he
  ·cases he
  rename_i x hx
  cases he
  exact(jqW h hf (by omega) hx).mono (by omega)
 split at he
 ·split at he
  ·cases he
   refine eqc hM ⟨hF.code, ?_,hF.jumps,hF.traps,fun r hr=> ?_,hF.jump,hF.kinds,hF.none,hF.fine⟩
   ·have:=hm.labels
    simp only [List.length_append,List.length_cons,List.length_nil]
    omega
   rcases List.mem_append.1 hr with hr|hr
   ·exact hF.places r hr
   obtain rfl:=List.mem_singleton.1 hr
   exact hF.code
  cases he
 split at he
 ·split at he
  ·cases he
   refine eqc hM ⟨hF.code,hF.labels,hF.jumps, ?_,hF.places,hF.jump,fun t ht=> ?_,hF.none,hF.fine⟩
   ·have:=hm.traps
    simp only [List.length_append,List.length_cons,List.length_nil]
    omega
   rcases List.mem_append.1 ht with ht|ht
   ·exact hF.kinds t ht
   obtain rfl:=List.mem_singleton.1 ht
   exact⟨Nat.zero_le _,hw.at 1,hw.at 2,hw.at 3⟩
  split at he
  ·have h1:=cqt h (hw.at 4) (by omega)
   cases he
   refine eqc (h1.1.mono (N':=N+20) (by omega)) ⟨hF.code,hF.labels,hF.jumps, ?_,hF.places,hF.jump,fun t ht=> ?_,hF.none,hF.fine⟩
   ·have:=hm.traps
    simp only [List.length_append,List.length_cons,List.length_nil]
    omega
   rcases List.mem_append.1 ht with ht|ht
   ·exact hF.kinds t ht
   obtain rfl:=List.mem_singleton.1 ht
   exact⟨by simp only;omega,hw.at 1,hw.at 2,hw.at 3⟩
  cases he
 split at he
 ·cases he
 rename_i x hx
 cases he
 exact iqo h hf hN hw hx
theorem dqH: ∀(l cur:List UInt8), ∀x∈aqy l cur,x.length≤l.length+cur.length∧x≠ []
 | [],cur,x,hx=>by
  rw [aqy] at hx
  split at hx
  ·cases hx
  ·obtain rfl:=List.mem_singleton.1 hx
   exact⟨by simp,by assumption⟩
 |c::l,cur,x,hx=>by
  rw [aqy] at hx
  split at hx
  ·split at hx
   ·have:=dqH l [] x hx
    exact⟨by have:=this.1;simp at this⊢;omega,this.2⟩
   rcases List.mem_cons.1 hx with rfl|hx
   ·exact⟨by simp,by assumption⟩
   have:=dqH l [] x hx
   exact⟨by have:=this.1;simp at this⊢;omega,this.2⟩
  have:=dqH l (cur++ [c]) x hx
  exact⟨by have:=this.1;simp at this⊢;omega,this.2⟩
theorem dqp (s:ByteArray): ∀x∈bqj s,x.size≤s.size∧0<x.size:=by
 intro x hx
 obtain⟨y,hy,rfl⟩:=List.mem_map.1 hx
 have:=dqH _ _ y hy
 have hl:s.data.toList.length=s.size:=Array.length_toList
 have h1:=this.1
 have h2:=List.length_pos_iff.2 this.2
 have e:(⟨y.toArray⟩:ByteArray).size=y.length:=by simp [ByteArray.size]
 rw [e]
 simp at h1
 omega
theorem fqn {s:ByteArray} (h:s.size≤65536):SmW (bqj s):=fun x hx=>Nat.le_trans (dqp s x hx).1 h
theorem cqv {σ σ':AsK} {N:Nat} {s:ByteArray} (h:cqB σ N) (hN:N≤900000) (hs:oqV s∨s.size≤65536) (he:σ.doLine s= .ok σ'):cqB σ' (N+20):=by
 rcases hs with hs|hs
 ·rw [kqA hs] at he
  cases he
  exact h.mono (by omega)
 unfold AsK.doLine at he
 simp only at he
 split at he
 ·cases he
  exact h.mono (by omega)
 split at he
 ·rename_i m hm
  exact hqB h hm hN (fqn hs) he
 split at he
 ·cases he
 rename_i x hx
 cases he
 exact(gqT h hN (fqn hs) hx).mono (by omega)
theorem eqY {σ:AsK} {N:Nat} (h:cqB σ N) (n:Nat):cqB { σ with line:=n } N:=⟨h.npool,h.nifs,h.nflds,h.nmths,h.pool,h.this,h.sup,h.ifs,h.flds,h.mths,h.part,h.op⟩
theorem hqC (N:Nat):cqB .new N:=⟨by simp [AsK.new],by simp [AsK.new],by simp [AsK.new],by simp [AsK.new],by simp [AsK.new],aqV (n:=0) (by omega),aqV (n:=0) (by omega),by simp [AsK.new],by simp [AsK.new],by simp [AsK.new],by simp [AsK.new],by simp [AsK.new]⟩
theorem fqb {σ:AsK} {N:Nat} (h:cqB σ N):eqE σ.c:=⟨fun k hk=> (h.pool k hk).1,h.this,h.sup,h.ifs,h.flds,fun x hx=> (h.mths x hx).1⟩
end Go.Proofs.YtlcidkiplidamaaGreatDoor
set_option maxHeartbeats 4000000
namespace Go.Proofs.YtlcidkiplidamaaGreatDoor
open Go Go.RowKit
theorem idxa0 (w:World) (k:IntKind) (cs:Array Value) (x:Int) (h0:0≤x) (hx:x< (7:Nat)) (hs:cs.size=7):(Instr.index 140 (.agg cs) (.int k x)).run Tryz.prog w= .ok (cs.getD x.toNat undef) w:=
 bqT (n:=7) Tryz.underlying140 Tryz.underlying9 rfl aqR w k cs x h0 hx hs
theorem idxb0 (w:World) (k:IntKind) (cs:Array Value) (x:Int) (h0:0≤x) (hx:x< (15:Nat)) (hs:cs.size=15):(Instr.index 141 (.agg cs) (.int k x)).run Tryz.prog w= .ok (cs.getD x.toNat undef) w:=
 bqT (n:=15) Tryz.underlying141 Tryz.underlying9 rfl aqR w k cs x h0 hx hs
attribute [local go_sem] idxa0 idxb0
theorem oqy (w:World):Calls Tryz.prog 33 #[.int .i64 0] w fun e w'=>e= .returned (.agg #[.string ⟨(aqc 0).1.toArray⟩, .string ⟨(aqc 0).2.toArray⟩])∧Below w.heap.size w w':=by
 rw [oqc]
 go_enter Tryz.func33,Tryz.ntmps33
 go_wp2
 refine bodyPost_ret (v:= .agg #[.string ⟨#[110,111,112]⟩, .string ⟨#[]⟩]) ?_ rfl ⟨rfl, ?_⟩
 ·simp [results,Tryz.results33,go_sem] <;>rfl
 repeat' (first|exact Below.refl _ _|refine Below.drew ?_|refine Below.alloc ?_ ?_ _|refine Below.setCell ?_ ?_ _| (simp;done) | (simp;omega))
theorem oqz (w:World):Calls Tryz.prog 33 #[.int .i64 3] w fun e w'=>e= .returned (.agg #[.string ⟨(aqc 3).1.toArray⟩, .string ⟨(aqc 3).2.toArray⟩])∧Below w.heap.size w w':=by
 rw [oqf]
 go_enter Tryz.func33,Tryz.ntmps33
 go_wp2
 refine bodyPost_ret (v:= .agg #[.string ⟨#[105,99,111,110,115,116,95,48]⟩, .string ⟨#[]⟩]) ?_ rfl ⟨rfl, ?_⟩
 ·simp [results,Tryz.results33,go_sem] <;>rfl
 repeat' (first|exact Below.refl _ _|refine Below.drew ?_|refine Below.alloc ?_ ?_ _|refine Below.setCell ?_ ?_ _| (simp;done) | (simp;omega))
theorem oqA (w:World):Calls Tryz.prog 33 #[.int .i64 6] w fun e w'=>e= .returned (.agg #[.string ⟨(aqc 6).1.toArray⟩, .string ⟨(aqc 6).2.toArray⟩])∧Below w.heap.size w w':=by
 rw [oqi]
 go_enter Tryz.func33,Tryz.ntmps33
 go_wp2
 refine bodyPost_ret (v:= .agg #[.string ⟨#[105,99,111,110,115,116,95,51]⟩, .string ⟨#[]⟩]) ?_ rfl ⟨rfl, ?_⟩
 ·simp [results,Tryz.results33,go_sem] <;>rfl
 repeat' (first|exact Below.refl _ _|refine Below.drew ?_|refine Below.alloc ?_ ?_ _|refine Below.setCell ?_ ?_ _| (simp;done) | (simp;omega))
theorem nqa (w:World):Calls Tryz.prog 33 #[.int .i64 16] w fun e w'=>e= .returned (.agg #[.string ⟨(aqc 16).1.toArray⟩, .string ⟨(aqc 16).2.toArray⟩])∧Below w.heap.size w w':=by
 rw [lq7]
 go_enter Tryz.func33,Tryz.ntmps33
 go_wp2
 refine bodyPost_ret (v:= .agg #[.string ⟨#[98,105,112,117,115,104]⟩, .string ⟨#[98]⟩]) ?_ rfl ⟨rfl, ?_⟩
 ·simp [results,Tryz.results33,go_sem] <;>rfl
 repeat' (first|exact Below.refl _ _|refine Below.drew ?_|refine Below.alloc ?_ ?_ _|refine Below.setCell ?_ ?_ _| (simp;done) | (simp;omega))
theorem nqb (w:World):Calls Tryz.prog 33 #[.int .i64 21] w fun e w'=>e= .returned (.agg #[.string ⟨(aqc 21).1.toArray⟩, .string ⟨(aqc 21).2.toArray⟩])∧Below w.heap.size w w':=by
 rw [mqa]
 go_enter Tryz.func33,Tryz.ntmps33
 go_wp2
 refine bodyPost_ret (v:= .agg #[.string ⟨#[105,108,111,97,100]⟩, .string ⟨#[117]⟩]) ?_ rfl ⟨rfl, ?_⟩
 ·simp [results,Tryz.results33,go_sem] <;>rfl
 repeat' (first|exact Below.refl _ _|refine Below.drew ?_|refine Below.alloc ?_ ?_ _|refine Below.setCell ?_ ?_ _| (simp;done) | (simp;omega))
theorem nqc (w:World):Calls Tryz.prog 33 #[.int .i64 27] w fun e w'=>e= .returned (.agg #[.string ⟨(aqc 27).1.toArray⟩, .string ⟨(aqc 27).2.toArray⟩])∧Below w.heap.size w w':=by
 rw [mqd]
 go_enter Tryz.func33,Tryz.ntmps33
 go_wp2
 refine bodyPost_ret (v:= .agg #[.string ⟨#[105,108,111,97,100,95,49]⟩, .string ⟨#[]⟩]) ?_ rfl ⟨rfl, ?_⟩
 ·simp [results,Tryz.results33,go_sem] <;>rfl
 repeat' (first|exact Below.refl _ _|refine Below.drew ?_|refine Below.alloc ?_ ?_ _|refine Below.setCell ?_ ?_ _| (simp;done) | (simp;omega))
theorem nqd (w:World):Calls Tryz.prog 33 #[.int .i64 42] w fun e w'=>e= .returned (.agg #[.string ⟨(aqc 42).1.toArray⟩, .string ⟨(aqc 42).2.toArray⟩])∧Below w.heap.size w w':=by
 rw [mqg]
 go_enter Tryz.func33,Tryz.ntmps33
 go_wp2
 refine bodyPost_ret (v:= .agg #[.string ⟨#[97,108,111,97,100,95,48]⟩, .string ⟨#[]⟩]) ?_ rfl ⟨rfl, ?_⟩
 ·simp [results,Tryz.results33,go_sem] <;>rfl
 repeat' (first|exact Below.refl _ _|refine Below.drew ?_|refine Below.alloc ?_ ?_ _|refine Below.setCell ?_ ?_ _| (simp;done) | (simp;omega))
theorem nqe (w:World):Calls Tryz.prog 33 #[.int .i64 45] w fun e w'=>e= .returned (.agg #[.string ⟨(aqc 45).1.toArray⟩, .string ⟨(aqc 45).2.toArray⟩])∧Below w.heap.size w w':=by
 rw [mqj]
 go_enter Tryz.func33,Tryz.ntmps33
 go_wp2
 refine bodyPost_ret (v:= .agg #[.string ⟨#[97,108,111,97,100,95,51]⟩, .string ⟨#[]⟩]) ?_ rfl ⟨rfl, ?_⟩
 ·simp [results,Tryz.results33,go_sem] <;>rfl
 repeat' (first|exact Below.refl _ _|refine Below.drew ?_|refine Below.alloc ?_ ?_ _|refine Below.setCell ?_ ?_ _| (simp;done) | (simp;omega))
theorem nqf (w:World):Calls Tryz.prog 33 #[.int .i64 59] w fun e w'=>e= .returned (.agg #[.string ⟨(aqc 59).1.toArray⟩, .string ⟨(aqc 59).2.toArray⟩])∧Below w.heap.size w w':=by
 rw [mqm]
 go_enter Tryz.func33,Tryz.ntmps33
 go_wp2
 refine bodyPost_ret (v:= .agg #[.string ⟨#[105,115,116,111,114,101,95,48]⟩, .string ⟨#[]⟩]) ?_ rfl ⟨rfl, ?_⟩
 ·simp [results,Tryz.results33,go_sem] <;>rfl
 repeat' (first|exact Below.refl _ _|refine Below.drew ?_|refine Below.alloc ?_ ?_ _|refine Below.setCell ?_ ?_ _| (simp;done) | (simp;omega))
theorem nqg (w:World):Calls Tryz.prog 33 #[.int .i64 62] w fun e w'=>e= .returned (.agg #[.string ⟨(aqc 62).1.toArray⟩, .string ⟨(aqc 62).2.toArray⟩])∧Below w.heap.size w w':=by
 rw [mqp]
 go_enter Tryz.func33,Tryz.ntmps33
 go_wp2
 refine bodyPost_ret (v:= .agg #[.string ⟨#[105,115,116,111,114,101,95,51]⟩, .string ⟨#[]⟩]) ?_ rfl ⟨rfl, ?_⟩
 ·simp [results,Tryz.results33,go_sem] <;>rfl
 repeat' (first|exact Below.refl _ _|refine Below.drew ?_|refine Below.alloc ?_ ?_ _|refine Below.setCell ?_ ?_ _| (simp;done) | (simp;omega))
theorem nqh (w:World):Calls Tryz.prog 33 #[.int .i64 77] w fun e w'=>e= .returned (.agg #[.string ⟨(aqc 77).1.toArray⟩, .string ⟨(aqc 77).2.toArray⟩])∧Below w.heap.size w w':=by
 rw [mqs]
 go_enter Tryz.func33,Tryz.ntmps33
 go_wp2
 refine bodyPost_ret (v:= .agg #[.string ⟨#[97,115,116,111,114,101,95,50]⟩, .string ⟨#[]⟩]) ?_ rfl ⟨rfl, ?_⟩
 ·simp [results,Tryz.results33,go_sem] <;>rfl
 repeat' (first|exact Below.refl _ _|refine Below.drew ?_|refine Below.alloc ?_ ?_ _|refine Below.setCell ?_ ?_ _| (simp;done) | (simp;omega))
theorem lqm (w:World):Calls Tryz.prog 33 #[.int .i64 154] w fun e w'=>e= .returned (.agg #[.string ⟨(aqc 154).1.toArray⟩, .string ⟨(aqc 154).2.toArray⟩])∧Below w.heap.size w w':=by
 rw [kqj]
 go_enter Tryz.func33,Tryz.ntmps33
 go_wp2
 refine bodyPost_ret (v:= .agg #[.string ⟨#[105,102,110,101]⟩, .string ⟨#[106]⟩]) ?_ rfl ⟨rfl, ?_⟩
 ·simp [results,Tryz.results33,go_sem] <;>rfl
 repeat' (first|exact Below.refl _ _|refine Below.drew ?_|refine Below.alloc ?_ ?_ _|refine Below.setCell ?_ ?_ _| (simp;done) | (simp;omega))
theorem lqn (w:World):Calls Tryz.prog 33 #[.int .i64 157] w fun e w'=>e= .returned (.agg #[.string ⟨(aqc 157).1.toArray⟩, .string ⟨(aqc 157).2.toArray⟩])∧Below w.heap.size w w':=by
 rw [kqm]
 go_enter Tryz.func33,Tryz.ntmps33
 go_wp2
 refine bodyPost_ret (v:= .agg #[.string ⟨#[105,102,103,116]⟩, .string ⟨#[106]⟩]) ?_ rfl ⟨rfl, ?_⟩
 ·simp [results,Tryz.results33,go_sem] <;>rfl
 repeat' (first|exact Below.refl _ _|refine Below.drew ?_|refine Below.alloc ?_ ?_ _|refine Below.setCell ?_ ?_ _| (simp;done) | (simp;omega))
theorem lqo (w:World):Calls Tryz.prog 33 #[.int .i64 160] w fun e w'=>e= .returned (.agg #[.string ⟨(aqc 160).1.toArray⟩, .string ⟨(aqc 160).2.toArray⟩])∧Below w.heap.size w w':=by
 rw [kqp]
 go_enter Tryz.func33,Tryz.ntmps33
 go_wp2
 refine bodyPost_ret (v:= .agg #[.string ⟨#[105,102,95,105,99,109,112,110,101]⟩, .string ⟨#[106]⟩]) ?_ rfl ⟨rfl, ?_⟩
 ·simp [results,Tryz.results33,go_sem] <;>rfl
 repeat' (first|exact Below.refl _ _|refine Below.drew ?_|refine Below.alloc ?_ ?_ _|refine Below.setCell ?_ ?_ _| (simp;done) | (simp;omega))
theorem lqp (w:World):Calls Tryz.prog 33 #[.int .i64 163] w fun e w'=>e= .returned (.agg #[.string ⟨(aqc 163).1.toArray⟩, .string ⟨(aqc 163).2.toArray⟩])∧Below w.heap.size w w':=by
 rw [kqs]
 go_enter Tryz.func33,Tryz.ntmps33
 go_wp2
 refine bodyPost_ret (v:= .agg #[.string ⟨#[105,102,95,105,99,109,112,103,116]⟩, .string ⟨#[106]⟩]) ?_ rfl ⟨rfl, ?_⟩
 ·simp [results,Tryz.results33,go_sem] <;>rfl
 repeat' (first|exact Below.refl _ _|refine Below.drew ?_|refine Below.alloc ?_ ?_ _|refine Below.setCell ?_ ?_ _| (simp;done) | (simp;omega))
theorem lqq (w:World):Calls Tryz.prog 33 #[.int .i64 166] w fun e w'=>e= .returned (.agg #[.string ⟨(aqc 166).1.toArray⟩, .string ⟨(aqc 166).2.toArray⟩])∧Below w.heap.size w w':=by
 rw [kqv]
 go_enter Tryz.func33,Tryz.ntmps33
 go_wp2
 refine bodyPost_ret (v:= .agg #[.string ⟨#[105,102,95,97,99,109,112,110,101]⟩, .string ⟨#[106]⟩]) ?_ rfl ⟨rfl, ?_⟩
 ·simp [results,Tryz.results33,go_sem] <;>rfl
 repeat' (first|exact Below.refl _ _|refine Below.drew ?_|refine Below.alloc ?_ ?_ _|refine Below.setCell ?_ ?_ _| (simp;done) | (simp;omega))
end Go.Proofs.YtlcidkiplidamaaGreatDoor
