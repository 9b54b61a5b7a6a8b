/-
  What the laws rest on, part 25: walks of the program's functions and plain laws. Conditions: none but those that each theorem names.
-/
import Derived.Test.YtlcidkiplidamaaGreatDoorR24
import Derived.Test.YtlcidkiplidamaaGreatDoorR00
import Derived.Test.YtlcidkiplidamaaGreatDoorR01
set_option linter.unusedSimpArgs false
set_option linter.unusedVariables false
set_option maxRecDepth 100000
set_option maxHeartbeats 2000000
namespace Go.Proofs.YtlcidkiplidamaaGreatDoor
open Go Go.RowKit Lib Go.Maps
theorem next_any (p1 q8 kb line b off n cap:Nat) (vs:List Value) (s:ByteArray) (w:World) (h1:w.cell? ⟨p1,0,none⟩=some (.pointer (some ⟨kb,0,none⟩))) (hk:Bx w kb vs 67) (hv:vs[11]?=some (.int .i64 line)) (h8:Bx w q8 [.slice (some ⟨b,off,none⟩) n cap] 43)
  (hn:0<n) (hle:n≤cap) (hmx:cap≤9223372036854775807) (hs:w.cell? ⟨b,off,none⟩=some (.string s)):
  Calls Tryz.prog 131 #[.pointer (some ⟨p1,0,none⟩), .pointer (some ⟨q8,0,none⟩)] w fun e w'=>e= .returned (.string s)∧ ∃A',(1<n→A'=some ⟨b,off+1,none⟩)∧w'=w.setCell ⟨q8,0,none⟩ (.slice A' (n - 1) (cap - 1)):=by
 have HK:=Lib.hid hk
 have c8:=h8.cell 0 rfl
 have z8:=h8.frozen 0
 have hd:decide ((0:Int) < (n:Int))=true:=by rw [decide_eq_true_eq];omega
 clear hk h8
 rcases Nat.lt_or_ge 1 cap with hc|hc
 ·go_enter Tryz.func131,Tryz.ntmps131
  go_wp2_with (go_at_call 26;refine stop_here ?_)
  refine go_on ?_
  refine(must_yes kb vs line _ HK.out hv).mono ?_
  rintro e w1 ⟨rfl,rfl⟩
  go_wp2_with fail
  go_ret
  exact⟨rfl,_,fun _=>rfl,rfl⟩
 ·obtain rfl:cap=1:=by omega
  obtain rfl:n=1:=by omega
  go_enter Tryz.func131,Tryz.ntmps131
  go_wp2_with (go_at_call 26;refine stop_here ?_)
  refine go_on ?_
  refine(must_yes kb vs line _ HK.out hv).mono ?_
  rintro e w1 ⟨rfl,rfl⟩
  go_wp2_with fail
  go_ret
  exact⟨rfl,_,fun h=>absurd h (by omega),rfl⟩
theorem MtC.addB {w w':World} {ρ:Nat→Nat} {B xb:Nat} {m:AsM} {U:MtV} {x:UInt8} {g cap:Nat} (h:MtC w ρ B xb m U) (hlow:Low w ρ B) (hos:w'.os=w.os) (htp:w'.tape=w.tape) (hou:w'.output=w.output) (hsz:w.heap.size≤w'.heap.size)
  (hkeep: ∀q,q<w.heap.size→q≠xb→U.cv.ownBlock≠some q→w'.heap[q]?=w.heap[q]?) (hbox:Bx w' xb ((mtCells m U).set 6 (.slice (some ⟨g,0,Option.none⟩) (m.mv.code.length+1) cap)) 73)
  (hrow:w'.ownsRow B 5 1 (.slice (some ⟨g,0,Option.none⟩) (m.mv.code.length+1) cap) (m.mv.code.length+1) (m.mv.code.map bV++ [bV x])) (hg:U.cv.ownBlock=some g∨w.heap.size≤g):
  ∃(ρ':Nat→Nat) (cv':Value),MtC w' ρ' B xb { m with mv:={ m.mv with code:=m.mv.code++ [x] } } { U with cv:=cv' }∧Chg [8,10] w ρ w' ρ'∧Low w' ρ' B:=by
 have hC:Chg [8,10] w ρ w' (paint ρ g 10):=⟨hos,htp,hou,hsz,fun q hq hr=>by
  refine⟨hkeep q hq (by rintro rfl;exact hr (by rw [h.xc];simp)) (fun e=>hr (by rw [h.code.2 q e];simp)),paint_other ?_⟩
  rintro rfl
  rcases hg with e|e
  ·exact hr (by rw [h.code.2 _ e];simp)
  ·omega⟩
 have hgr:ρ g=10∨w.heap.size≤g:=hg.imp (fun e=>h.code.2 g e) id
 have hxl:=h.box.lt
 have hll:=h.lab.lt
 refine⟨paint ρ g 10, .slice (some ⟨g,0,Option.none⟩) (m.mv.code.length+1) cap,⟨hbox, ?_,h.lab.keep (hC.blk _ hll (by rw [h.lc];decide)).1, ?_,⟨own_eq hrow (by simp) (by simp),fun q hq=> ?_⟩,hC.own h.jumps (by decide),hC.own h.traps (by decide),h.none⟩,hC,low_paint hlow hsz (hrow.lt g rfl)⟩
 ·rw [paint_other]
  ·exact h.xc
  ·rintro rfl
   rcases hgr with e|e
   ·rw [h.xc] at e;omega
   ·omega
 ·show paint ρ g 10 U.lb=9
  rw [paint_other]
  ·exact h.lc
  ·rintro rfl
   rcases hgr with e|e
   ·rw [h.lc] at e;omega
   ·omega
 ·obtain rfl:g=q:=by simpa [Value.ownBlock] using hq
  exact paint_same _ _ _
theorem info_abyte:(Tryz.prog.info? 5).map (fun i=> (i.zero,i.size,i.bytes))=some (some (.int .u8 0),1,1):=by kernel_rfl
def PPost (w:World) (ρ:Nat→Nat) (B xb:Nat) (m:AsM) (U:MtV) (l:List UInt8) (e:Ending) (w':World):Prop:=
 e= .returned (.tuple #[])∧ ∃(ρ':Nat→Nat) (cv':Value),MtC w' ρ' B xb { m with mv:={ m.mv with code:=m.mv.code++l } } { U with cv:=cv' }∧Chg [8,10] w ρ w' ρ'∧Low w' ρ' B
theorem wrap_byte (x:Int):Value.int .u8 (IntKind.u8.wrap x)=bV (aByte x):=by
 have h:IntKind.u8.wrap x=x%256:=rfl
 unfold bV aByte
 rw [h,UInt8.toNat_ofNat']
 congr 1
 omega
def tailB (n y:Int):List UInt8:=if y=1 then [aByte (n/256),aByte n] else if y=0 then [aByte n] else []
theorem put_any (p4 xb:Nat) (ρ:Nat→Nat) (B:Nat) (m:AsM) (U:MtV) (n y0:Int) (w:World) (h4:w.cell? ⟨p4,0,none⟩=some (.pointer (some ⟨xb,0,none⟩))) (hp:ρ p4=0) (h:MtC w ρ B xb m U) (hlow:Low w ρ B) (hB:B≤w.heap.size) (hl:m.mv.code.length≤999000) (hn: -9223372036854775808≤n∧n≤9223372036854775807) (hy:y0=0∨y0=1):
  Calls Tryz.prog 132 #[.int .i64 n, .int .i64 (y0+1), .pointer (some ⟨p4,0,none⟩)] w (PPost w ρ B xb m U (tailB n y0)):=by
 have H:=Lib.hid h
 have HLW:=Lib.hid hlow
 have H4:=Lib.hid h4
 have hp4l:p4<w.heap.size:=World.block_lt_of_cell? _ _ h4
 have HP:=Lib.hid hp
 clear h hlow h4 hp
 have hw8:IntKind.i64.wrap 8=8:=by kernel_rfl
 have hw0:IntKind.i64.wrap 0=0:=by kernel_rfl
 go_enter Tryz.func132,Tryz.ntmps132
 go_wp2_with fail
 go_loopw [5] (fun x wr=> ∃(y:Int) (l:List UInt8) (ρ':Nat→Nat) (cv':Value),x= .int .i64 y∧ -1≤y∧y≤1∧(l.length:Int)+y≤1∧Hid (l++tailB n y=tailB n y0)∧Hid (MtC wr ρ' B xb { m with mv:={ m.mv with code:=m.mv.code++l } } { U with cv:=cv' })∧Hid (Chg [8,10] w ρ wr ρ')∧Hid (Low wr ρ' B)) (fun x _=> (RowKit.intOf x+1).toNat)
 case atStart=>exact⟨y0, [],ρ,U.cv,by go_num,by omega,by omega,by simp;omega,Lib.hid rfl,Lib.hid (by simpa using H.out),Lib.hid (Chg.refl _ _ _),HLW⟩
 case round=>
  obtain⟨wr1,hwr⟩: ∃W,W=wr:=⟨_,rfl⟩
  subst hwr
  obtain⟨y,l,ρ1,cv1,rfl,hy1,hy2,hl2,HT,HM,HC,HL⟩:=hrel
  have c6:=HM.out.box.cell 6 rfl
  have z6:=HM.out.box.frozen 6
  have hxl:=HM.out.box.lt
  have hnx:cv1.ownBlock≠some xb:=fun e=>by have h1:=HM.out.code.2 _ e;rw [HM.out.xc] at h1;omega
  have hP1:=(HC.out.blk p4 hp4l (by rw [HP.out];decide)).2.trans HP.out
  have hnp:cv1.ownBlock≠some p4:=fun e=>by have h1:=HM.out.code.2 _ e;rw [hP1] at h1;omega
  have hz:=HC.out.size
  have c4:=(HC.out.cell0 (by decide) hp4l HP.out 0).trans H4.out
  obtain⟨v1,v2,v3,v4,v5,v6,v7,v8,v9,v10,v11,v12⟩:=far xb wr1.heap.size hxl
  obtain⟨t1,t2,t3,t4,t5,t6,t7,t8,t9,t10,t11,t12⟩:=far p4 wr1.heap.size (by omega)
  obtain⟨m1,hm1⟩: ∃m1:AsM,m1={ m with mv:={ m.mv with code:=m.mv.code++l } }:=⟨_,rfl⟩
  have HME:=Lib.hid hm1
  rw [←hm1] at HM
  have hcl:m1.mv.code.length≤999002:=by rw [hm1];show(m.mv.code++l).length≤999002;rw [List.length_append];omega
  clear hm1
  obtain rfl|rfl|rfl:y=1∨y=0∨y= -1:=by omega
  ·go_wp2_with fail
   go_region_law (first
    | (refine step_lies rfl (.tmp 17) (.tmp 23) 34 rfl Tryz.underlying34 info_abyte rfl (by omega) B rfl ((own_heap HM.out.code.1 (fun _ _=>rfl)).alloc _) rfl rfl (cells_new_at _ _ _ _ (by first|rfl|omega| (simp<;>omega))) (by simp [Value.oneCell']) (by omega) (by simp only [maxLen];omega) (by omega) (by first|omega| (simp<;>omega)) ?_
       intro g6 cap6 W' ho hg hb hgg
       have HO6:=Lib.hid ho
       have HG6:=Lib.hid hg
       have X6:=Lib.hid (show Bx W' xb (mtCells m1 { U with cv:=cv1 }) 73 from(hg.block xb (by first|omega| (simp;omega)) (fun e=>hnx e.symm)).trans ((Below.heap_alloc _ _ _ (by first|omega| (simp;omega))).trans HM.out.box))
       have c6:=X6.out.cell 6 rfl
       have z6:=X6.out.frozen 6
       have d4:=(World.cell?_of_block (a:=⟨p4,0,none⟩) ((hg.block p4 (by first|omega| (simp;omega)) (fun e=>hnp e.symm)).trans (Below.heap_alloc _ _ _ (by first|omega| (simp;omega))))).trans c4
       have HGG:=Lib.hid hgg
       clear ho hg hb hgg))
   all_goals
    have hg6:cv1.ownBlock=some g6∨wr1.heap.size≤g6:=by
     rcases HGG.out with e|e
     ·exact .inl e
     ·right
      first|omega| (simp at e;omega)
    have hgx:g6≠xb:=by
     rintro rfl
     rcases hg6 with e|e
     ·exact hnx e
     ·omega
    have hz6':wr1.heap.size+1≤W'.heap.size:=Nat.le_trans (Nat.le_of_eq (World.size_alloc wr1 _).symm) HG6.out.size
    obtain⟨ρ2,cv2,hM,hC2,hL2⟩:=HM.out.addB (x:=aByte (n/256)) (w':=W'.setCell ⟨xb,6,none⟩ (.slice (some ⟨g6,0,none⟩) (m1.mv.code.length+1) cap6)) (g:=g6) (cap:=cap6) HL.out HG6.out.os HG6.out.tape HG6.out.output (by first|omega| (simp;omega))
     (fun q hq h1 h2=> (Below.heap_setCell _ _ _ _ h1).trans ((HG6.out.block q (by first|omega| (simp;omega)) (fun e=>h2 e.symm)).trans (Below.heap_alloc _ _ _ (by first|omega| (simp;omega)))))
     (X6.out.set 6 _) (own_set (by have h:=HO6.out;rw [wrap_byte] at h;exact h) hgx _) hg6
    have HEQ:=Lib.hid (show({ m1 with mv:={ m1.mv with code:=m1.mv.code++ [aByte (n/256)] } }:AsM)={ m with mv:={ m.mv with code:=m.mv.code++(l++ [aByte (n/256)]) } } by rw [HME.out];simp)
    rw [HEQ.out] at hM
    have HM2:=Lib.hid hM
    have HC2:=Lib.hid (HC.out.trans hC2)
    have HL2:=Lib.hid hL2
    clear hM hC2 hL2
    go_wp2_with fail
    go_roundw
    case rel=>exact⟨0,l++ [aByte (n/256)],ρ2,cv2,by go_num,by omega,by omega,by simp;omega,Lib.hid (by rw [←HT.out,List.append_assoc];rfl),HM2,HC2,HL2⟩
    case measure=>simp [RowKit.intOf]
  ·go_wp2_with fail
   go_region_law (first
    | (refine step_lies rfl (.tmp 17) (.tmp 23) 34 rfl Tryz.underlying34 info_abyte rfl (by omega) B rfl ((own_heap HM.out.code.1 (fun _ _=>rfl)).alloc _) rfl rfl (cells_new_at _ _ _ _ (by first|rfl|omega| (simp<;>omega))) (by simp [Value.oneCell']) (by omega) (by simp only [maxLen];omega) (by omega) (by first|omega| (simp<;>omega)) ?_
       intro g6 cap6 W' ho hg hb hgg
       have HO6:=Lib.hid ho
       have HG6:=Lib.hid hg
       have X6:=Lib.hid (show Bx W' xb (mtCells m1 { U with cv:=cv1 }) 73 from(hg.block xb (by first|omega| (simp;omega)) (fun e=>hnx e.symm)).trans ((Below.heap_alloc _ _ _ (by first|omega| (simp;omega))).trans HM.out.box))
       have c6:=X6.out.cell 6 rfl
       have z6:=X6.out.frozen 6
       have d4:=(World.cell?_of_block (a:=⟨p4,0,none⟩) ((hg.block p4 (by first|omega| (simp;omega)) (fun e=>hnp e.symm)).trans (Below.heap_alloc _ _ _ (by first|omega| (simp;omega))))).trans c4
       have HGG:=Lib.hid hgg
       clear ho hg hb hgg))
   all_goals
    have hg6:cv1.ownBlock=some g6∨wr1.heap.size≤g6:=by
     rcases HGG.out with e|e
     ·exact .inl e
     ·right
      first|omega| (simp at e;omega)
    have hgx:g6≠xb:=by
     rintro rfl
     rcases hg6 with e|e
     ·exact hnx e
     ·omega
    have hz6':wr1.heap.size+1≤W'.heap.size:=Nat.le_trans (Nat.le_of_eq (World.size_alloc wr1 _).symm) HG6.out.size
    obtain⟨ρ2,cv2,hM,hC2,hL2⟩:=HM.out.addB (x:=aByte (n)) (w':=W'.setCell ⟨xb,6,none⟩ (.slice (some ⟨g6,0,none⟩) (m1.mv.code.length+1) cap6)) (g:=g6) (cap:=cap6) HL.out HG6.out.os HG6.out.tape HG6.out.output (by first|omega| (simp;omega))
     (fun q hq h1 h2=> (Below.heap_setCell _ _ _ _ h1).trans ((HG6.out.block q (by first|omega| (simp;omega)) (fun e=>h2 e.symm)).trans (Below.heap_alloc _ _ _ (by first|omega| (simp;omega)))))
     (X6.out.set 6 _) (own_set (by have h:=HO6.out;rw [wrap_byte] at h;exact h) hgx _) hg6
    have HEQ:=Lib.hid (show({ m1 with mv:={ m1.mv with code:=m1.mv.code++ [aByte (n)] } }:AsM)={ m with mv:={ m.mv with code:=m.mv.code++(l++ [aByte (n)]) } } by rw [HME.out];simp)
    rw [HEQ.out] at hM
    have HM2:=Lib.hid hM
    have HC2:=Lib.hid (HC.out.trans hC2)
    have HL2:=Lib.hid hL2
    clear hM hC2 hL2
    go_wp2_with fail
    go_roundw
    case rel=>exact⟨-1,l++ [aByte (n)],ρ2,cv2,by go_num,by omega,by omega,by simp;omega,Lib.hid (by rw [←HT.out,List.append_assoc];rfl),HM2,HC2,HL2⟩
    case measure=>simp [RowKit.intOf]
  ·go_wp2_with fail
   refine⟨rfl, .tuple #[],by simp [results,Tryz.results132],rfl,ρ1,cv1, ?_,HC.out,HL.out⟩
   have e:l=tailB n y0:=by
    have h:=HT.out
    have e2:tailB n (-1)= []:=rfl
    rw [e2,List.append_nil] at h
    exact h
   rw [←e]
   have h:=HM.out
   rw [HME.out] at h
   exact h
set_option maxHeartbeats 1000000
theorem info_afar:(Tryz.prog.info? 176).map (fun i=> (i.zero,i.size,i.bytes))=some (some (.agg #[.int .i64 0, .int .i64 0, .string ⟨#[]⟩]),3,32):=by kernel_rfl
theorem info_apitrap:(Tryz.prog.info? 112).map (fun i=> (i.zero,i.size,i.bytes))=some (some (.agg #[.int .i64 0, .int .i64 0, .int .i64 0, .int .i64 0]),4,32):=by kernel_rfl
theorem MtC.addJ {w w':World} {ρ:Nat→Nat} {B xb:Nat} {m:AsM} {U:MtV} {x:AsF} {g cap:Nat} (h:MtC w ρ B xb m U) (hlow:Low w ρ B) (hos:w'.os=w.os) (htp:w'.tape=w.tape) (hou:w'.output=w.output) (hsz:w.heap.size≤w'.heap.size)
  (hkeep: ∀q,q<w.heap.size→q≠xb→U.jv.ownBlock≠some q→w'.heap[q]?=w.heap[q]?) (hbox:Bx w' xb ((mtCells m U).set 11 (.slice (some ⟨g,0,Option.none⟩) (m.jumps.length+1) cap)) 73)
  (hrow:w'.ownsRow B 176 3 (.slice (some ⟨g,0,Option.none⟩) (m.jumps.length+1) cap) (m.jumps.length+1) (m.jumps.flatMap AsF.cells++x.cells)) (hg:U.jv.ownBlock=some g∨w.heap.size≤g):
  ∃(ρ':Nat→Nat) (jv':Value),MtC w' ρ' B xb { m with jumps:=m.jumps++ [x] } { U with jv:=jv' }∧Chg [8,11] w ρ w' ρ'∧Low w' ρ' B:=by
 have hC:Chg [8,11] w ρ w' (paint ρ g 11):=⟨hos,htp,hou,hsz,fun q hq hr=>by
  refine⟨hkeep q hq (by rintro rfl;exact hr (by rw [h.xc];simp)) (fun e=>hr (by rw [h.jumps.2 q e];simp)),paint_other ?_⟩
  rintro rfl
  rcases hg with e|e
  ·exact hr (by rw [h.jumps.2 _ e];simp)
  ·omega⟩
 have hgr:ρ g=11∨w.heap.size≤g:=hg.imp (fun e=>h.jumps.2 g e) id
 have hxl:=h.box.lt
 have hll:=h.lab.lt
 refine⟨paint ρ g 11, .slice (some ⟨g,0,Option.none⟩) (m.jumps.length+1) cap,⟨hbox, ?_,h.lab.keep (hC.blk _ hll (by rw [h.lc];decide)).1, ?_,hC.own h.code (by decide),⟨own_eq hrow (by simp) (by simp),fun q hq=> ?_⟩,hC.own h.traps (by decide),h.none⟩,hC,low_paint hlow hsz (hrow.lt g rfl)⟩
 ·rw [paint_other]
  ·exact h.xc
  ·rintro rfl
   rcases hgr with e|e
   ·rw [h.xc] at e;omega
   ·omega
 ·show paint ρ g 11 U.lb=9
  rw [paint_other]
  ·exact h.lc
  ·rintro rfl
   rcases hgr with e|e
   ·rw [h.lc] at e;omega
   ·omega
 ·obtain rfl:g=q:=by simpa [Value.ownBlock] using hq
  exact paint_same _ _ _
theorem MtC.setB {w:World} {ρ:Nat→Nat} {B xb:Nat} {m:AsM} {U:MtV} {g n cap:Nat} (h:MtC w ρ B xb m U) (hcv:U.cv= .slice (some ⟨g,0,Option.none⟩) n cap) (i:Nat) (x:UInt8):MtC (w.setCell ⟨g,i,Option.none⟩ (bV x)) ρ B xb { m with mv:={ m.mv with code:=m.mv.code.set i x } } U∧Chg [10] w ρ (w.setCell ⟨g,i,Option.none⟩ (bV x)) ρ:=by
 have hg:ρ g=10:=h.code.2 g (by rw [hcv];rfl)
 have hC:Chg [10] w ρ (w.setCell ⟨g,i,Option.none⟩ (bV x)) ρ:=⟨rfl,rfl,rfl,by simp,fun q hq hr=> ⟨Below.heap_setCell _ _ _ _ (by rintro rfl;exact hr (by rw [hg];simp)),rfl⟩⟩
 refine⟨⟨?_,h.xc,h.lab.keep (hC.blk _ h.lab.lt (by rw [h.lc];decide)).1,h.lc,⟨?_,h.code.2⟩,hC.own h.jumps (by decide),hC.own h.traps (by decide),h.none⟩,hC⟩
 ·have e:mtCells { m with mv:={ m.mv with code:=m.mv.code.set i x } } U=mtCells m U:=rfl
  rw [e]
  exact hC.bx h.box (by rw [h.xc];decide)
 ·have hrow:=h.code.1
  have hn:n=m.mv.code.length:=by
   obtain⟨A',c',e⟩:=own_slice hrow
   rw [hcv] at e
   injection e
  subst hn
  rw [hcv] at hrow⊢
  have hs:=hrow.stored i (bV x)
  exact own_eq hs.1 (by simp) (by simp [List.map_set])
def shut (ρ:Nat→Nat):Nat→Nat:=fun g=>if ρ g=10∨ρ g=13 then 7 else ρ g
theorem chg_shut (w:World) (ρ:Nat→Nat):Chg [10,13] w ρ w (shut ρ):=⟨rfl,rfl,rfl,Nat.le_refl _,fun g hg hc=> ⟨rfl,if_neg (by
 intro h
 exact hc (by rcases h with h|h<;>simp [h]))⟩⟩
theorem low_shut {w:World} {ρ:Nat→Nat} {B:Nat} (h:Low w ρ B):Low w (shut ρ) B:=fun g hg=>h g (by
 intro e
 apply hg
 unfold shut
 rw [e]
 simp)
theorem missing_at (p2 xb line:Nat) (vs:List Value) (w:World) (h2:w.cell? ⟨p2,0,none⟩=some (.pointer (some ⟨xb,0,none⟩))) (h:Bx w xb vs 73) (hv:vs[8]?=some (.int .i64 line)):
  Calls Tryz.prog 125 #[.pointer (some ⟨p2,0,none⟩)] w fun e w'=>e= .panicked [{ v:=stopA line 60,recovered:=false }]∧w'=w:=by
 have c8:=h.cell 8 hv
 clear h
 go_enter Tryz.func125,Tryz.ntmps125
 go_wp2
 exact⟨rfl,rfl,rfl⟩
theorem look_yes (p2 p3 xb lb:Nat) (labels:List (List UInt8×Nat)) (vs:List Value) (s:ByteArray) (p:Nat) (w:World) (h2:w.cell? ⟨p2,0,none⟩=some (.pointer (some ⟨xb,0,none⟩))) (h:Bx w xb vs 73) (hv:vs[10]?=some (.map (some lb))) (hl:LabM w lb labels) (hs:s.size≤maxLen) (hp:aLook labels s=some p):
  Calls Tryz.prog 126 #[.string s, .pointer (some ⟨p2,0,none⟩), .pointer (some ⟨p3,0,none⟩)] w fun e w'=>e= .returned (.int .i64 p)∧w'=w:=by
 have c10:=h.cell 10 hv
 obtain⟨n,f,sz,_,hM,hf⟩:=hl
 have hfs:f s.data.toList=some (.int .i64 p):=by
  have:=hf s.data.toList
  rw [this,show(⟨s.data.toList.toArray⟩:ByteArray)=s from rfl,hp]
  rfl
 have HM:=Lib.hid hM
 clear h hM hf hp
 go_enter Tryz.func126,Tryz.ntmps126
 go_wp2_with (refine wpl_look rfl _ _ rfl Tryz.underlying9 Tryz.underlying69 (z:= .int .i64 0) (by kernel_rfl) rfl HM.out rfl hs ?_;rw [hfs])
 go_ret
 exact⟨rfl,rfl⟩
theorem look_no (p2 p3 xb lb line:Nat) (labels:List (List UInt8×Nat)) (vs:List Value) (s:ByteArray) (w:World) (h2:w.cell? ⟨p2,0,none⟩=some (.pointer (some ⟨xb,0,none⟩))) (h3:w.cell? ⟨p3,0,none⟩=some (.func (.func 125) #[] #[.pointer (some ⟨p2,0,none⟩)])) (h:Bx w xb vs 73) (hv8:vs[8]?=some (.int .i64 line)) (hv:vs[10]?=some (.map (some lb))) (hl:LabM w lb labels) (hs:s.size≤maxLen) (hp:aLook labels s=none):
  Calls Tryz.prog 126 #[.string s, .pointer (some ⟨p2,0,none⟩), .pointer (some ⟨p3,0,none⟩)] w fun e w'=>e= .panicked [{ v:=stopA line 60,recovered:=false }]∧w'=w:=by
 have c10:=h.cell 10 hv
 have HX:=Lib.hid h
 obtain⟨n,f,sz,_,hM,hf⟩:=hl
 have hfs:f s.data.toList=none:=by
  have:=hf s.data.toList
  rw [this,show(⟨s.data.toList.toArray⟩:ByteArray)=s from rfl,hp]
  rfl
 have HM:=Lib.hid hM
 have H2:=Lib.hid h2
 have HV8:=Lib.hid hv8
 clear h hM hf hp hv8
 go_enter Tryz.func126,Tryz.ntmps126
 go_wp2_with (first| (refine wpl_look rfl _ _ rfl Tryz.underlying9 Tryz.underlying69 (z:= .int .i64 0) (by kernel_rfl) rfl HM.out rfl hs ?_;rw [hfs]) | (go_at_call 125;refine stop_here ?_))
 refine go_on ?_
 refine(missing_at p2 xb line vs _ H2.out HX.out HV8.out).mono ?_
 rintro e w1 ⟨rfl,rfl⟩
 go_wp2_with fail
 exact(show _∧_ from⟨rfl,rfl,rfl⟩)
structure MtT (w:World) (ρ:Nat→Nat) (B xb:Nat) (m:AsM) (U:MtV) (tv:Value) (ts:List TrapV):Prop where
 box:Bx w xb ((mtCells m U).set 7 tv) 73
 xc:ρ xb=8
 lab:LabM w U.lb m.labels
 lc:ρ U.lb=9
 code:OwnC w ρ B 5 1 U.cv m.mv.code.length (m.mv.code.map bV) 10
 traps:OwnC w ρ B 127 4 U.tv m.traps.length (m.traps.flatMap AsT.cells) 12
 tr:OwnC w ρ B 112 4 tv ts.length (ts.flatMap TrapV.cells) 13
theorem MtC.toT {w:World} {ρ:Nat→Nat} {B xb:Nat} {m:AsM} {U:MtV} (h:MtC w ρ B xb m U):MtT w ρ B xb m U (.slice Option.none 0 0) []:=
 ⟨h.box,h.xc,h.lab,h.lc,h.code,h.traps,ownC_nil _ _ _ _ _ _⟩
theorem MtT.keep {cs:List Nat} {w w':World} {ρ ρ':Nat→Nat} {B xb:Nat} {m:AsM} {U:MtV} {tv:Value} {ts:List TrapV} (h:MtT w ρ B xb m U tv ts) (k:Chg cs w ρ w' ρ') (hc: ∀c,8≤c→c≤13→c∉cs):MtT w' ρ' B xb m U tv ts where
 box:=k.bx h.box (by rw [h.xc];exact hc 8 (by omega) (by omega))
 xc:=(k.blk xb h.box.lt (by rw [h.xc];exact hc 8 (by omega) (by omega))).2.trans h.xc
 lab:=h.lab.keep (k.blk U.lb h.lab.lt (by rw [h.lc];exact hc 9 (by omega) (by omega))).1
 lc:=(k.blk U.lb h.lab.lt (by rw [h.lc];exact hc 9 (by omega) (by omega))).2.trans h.lc
 code:=k.own h.code (hc 10 (by omega) (by omega))
 traps:=k.own h.traps (hc 12 (by omega) (by omega))
 tr:=k.own h.tr (hc 13 (by omega) (by omega))
theorem MtT.below {w w':World} {ρ:Nat→Nat} {B xb:Nat} {m:AsM} {U:MtV} {tv:Value} {ts:List TrapV} (h:MtT w ρ B xb m U tv ts) (hb:Below w.heap.size w w'):MtT w' ρ B xb m U tv ts:=h.keep (Chg.of_below (cs:= []) hb) (by simp)
theorem MtT.add {w w':World} {ρ:Nat→Nat} {B xb:Nat} {m:AsM} {U:MtV} {tv:Value} {ts:List TrapV} {x:TrapV} {g cap:Nat} (h:MtT w ρ B xb m U tv ts) (hlow:Low w ρ B) (hos:w'.os=w.os) (htp:w'.tape=w.tape) (hou:w'.output=w.output) (hsz:w.heap.size≤w'.heap.size)
  (hkeep: ∀q,q<w.heap.size→q≠xb→tv.ownBlock≠some q→w'.heap[q]?=w.heap[q]?) (hbox:Bx w' xb (((mtCells m U).set 7 tv).set 7 (.slice (some ⟨g,0,Option.none⟩) (ts.length+1) cap)) 73)
  (hrow:w'.ownsRow B 112 4 (.slice (some ⟨g,0,Option.none⟩) (ts.length+1) cap) (ts.length+1) (ts.flatMap TrapV.cells++x.cells)) (hg:tv.ownBlock=some g∨w.heap.size≤g):
  ∃(ρ':Nat→Nat) (tv':Value),MtT w' ρ' B xb m U tv' (ts++ [x])∧Chg [8,13] w ρ w' ρ'∧Low w' ρ' B:=by
 have hC:Chg [8,13] w ρ w' (paint ρ g 13):=⟨hos,htp,hou,hsz,fun q hq hr=>by
  refine⟨hkeep q hq (by rintro rfl;exact hr (by rw [h.xc];simp)) (fun e=>hr (by rw [h.tr.2 q e];simp)),paint_other ?_⟩
  rintro rfl
  rcases hg with e|e
  ·exact hr (by rw [h.tr.2 _ e];simp)
  ·omega⟩
 have hgr:ρ g=13∨w.heap.size≤g:=hg.imp (fun e=>h.tr.2 g e) id
 have hxl:=h.box.lt
 have hll:=h.lab.lt
 refine⟨paint ρ g 13, .slice (some ⟨g,0,Option.none⟩) (ts.length+1) cap,⟨?_, ?_,h.lab.keep (hC.blk _ hll (by rw [h.lc];decide)).1, ?_,hC.own h.code (by decide),hC.own h.traps (by decide),⟨own_eq hrow (by simp) (by simp),fun q hq=> ?_⟩⟩,hC,low_paint hlow hsz (hrow.lt g rfl)⟩
 ·exact hbox
 ·rw [paint_other]
  ·exact h.xc
  ·rintro rfl
   rcases hgr with e|e
   ·rw [h.xc] at e;omega
   ·omega
 ·rw [paint_other]
  ·exact h.lc
  ·rintro rfl
   rcases hgr with e|e
   ·rw [h.lc] at e;omega
   ·omega
 ·obtain rfl:g=q:=by simpa [Value.ownBlock] using hq
  exact paint_same _ _ _
theorem shut_meth2 {w:World} {ρ:Nat→Nat} {B xb:Nat} {m:AsM} {U:MtV} {ts:List TrapV} {tv:Value} (h:MtT w ρ B xb m U tv ts) (hc:m.mv.code.length≤1048576) (hl:ts.length≤1048576):
  MethS w (shut ρ) { m.mv with traps:=ts } U.cv tv:=
 ⟨slAt_own h.code.1 _ (by omega) hc fun g hg=>by
  unfold shut
  rw [if_pos (.inl (h.code.2 g hg))],slAt_own h.tr.1 _ (by omega) hl fun g hg=>by
  unfold shut
  rw [if_pos (.inr (h.tr.2 g hg))],own_soft h.code fun g hg=>by
  unfold shut
  rw [if_pos (.inl hg)]⟩
theorem traps_step {labels:List (List UInt8×Nat)} {t:AsT} {l:List AsT} {a b c:Nat} {ts:List TrapV} (h1:aLook labels t.lo=some a) (h2:aLook labels t.hi=some b) (h3:aLook labels t.tg=some c):
  (aTraps labels (t::l)).map (ts++ ·)=(aTraps labels l).map ((ts++ [⟨a,b,c,t.kind⟩])++ ·):=by
 rw [aTraps,h1,h2,h3]
 cases aTraps labels l<;>simp
theorem traps_no {labels:List (List UInt8×Nat)} {t:AsT} {l:List AsT} (h:aLook labels t.lo=none∨aLook labels t.hi=none∨aLook labels t.tg=none):aTraps labels (t::l)=none:=by
 rw [aTraps]
 split
 ·rename_i h1 h2 h3
  rcases h with h|h|h<;>simp_all
 ·rfl
end Go.Proofs.YtlcidkiplidamaaGreatDoor
set_option maxHeartbeats 4000000
namespace Go.Proofs.YtlcidkiplidamaaGreatDoor
open Go Go.RowKit
theorem idxa0 (w:World) (k:IntKind) (cs:Array Value) (x:Int) (h0:0≤x) (hx:x< (7:Nat)) (hs:cs.size=7):(Instr.index 140 (.agg cs) (.int k x)).run Tryz.prog w= .ok (cs.getD x.toNat undef) w:=
 run_index_arr (n:=7) Tryz.underlying140 Tryz.underlying9 rfl info_string w k cs x h0 hx hs
theorem idxb0 (w:World) (k:IntKind) (cs:Array Value) (x:Int) (h0:0≤x) (hx:x< (15:Nat)) (hs:cs.size=15):(Instr.index 141 (.agg cs) (.int k x)).run Tryz.prog w= .ok (cs.getD x.toNat undef) w:=
 run_index_arr (n:=15) Tryz.underlying141 Tryz.underlying9 rfl info_string w k cs x h0 hx hs
attribute [local go_sem] idxa0 idxb0
theorem table_0 (w:World):Calls Tryz.prog 33 #[.int .i64 0] w fun e w'=>e= .returned (.agg #[.string ⟨(rowOf 0).1.toArray⟩, .string ⟨(rowOf 0).2.toArray⟩])∧Below w.heap.size w w':=by
 rw [rowOf_0]
 go_enter Tryz.func33,Tryz.ntmps33
 go_wp2
 refine bodyPost_ret (v:= .agg #[.string ⟨#[110,111,112]⟩, .string ⟨#[]⟩]) ?_ rfl ⟨rfl, ?_⟩
 ·simp [results,Tryz.results33,go_sem] <;>rfl
 ·repeat' (first|exact Below.refl _ _|refine Below.drew ?_|refine Below.alloc ?_ ?_ _|refine Below.setCell ?_ ?_ _| (simp;done) | (simp;omega))
theorem table_3 (w:World):Calls Tryz.prog 33 #[.int .i64 3] w fun e w'=>e= .returned (.agg #[.string ⟨(rowOf 3).1.toArray⟩, .string ⟨(rowOf 3).2.toArray⟩])∧Below w.heap.size w w':=by
 rw [rowOf_3]
 go_enter Tryz.func33,Tryz.ntmps33
 go_wp2
 refine bodyPost_ret (v:= .agg #[.string ⟨#[105,99,111,110,115,116,95,48]⟩, .string ⟨#[]⟩]) ?_ rfl ⟨rfl, ?_⟩
 ·simp [results,Tryz.results33,go_sem] <;>rfl
 ·repeat' (first|exact Below.refl _ _|refine Below.drew ?_|refine Below.alloc ?_ ?_ _|refine Below.setCell ?_ ?_ _| (simp;done) | (simp;omega))
theorem table_6 (w:World):Calls Tryz.prog 33 #[.int .i64 6] w fun e w'=>e= .returned (.agg #[.string ⟨(rowOf 6).1.toArray⟩, .string ⟨(rowOf 6).2.toArray⟩])∧Below w.heap.size w w':=by
 rw [rowOf_6]
 go_enter Tryz.func33,Tryz.ntmps33
 go_wp2
 refine bodyPost_ret (v:= .agg #[.string ⟨#[105,99,111,110,115,116,95,51]⟩, .string ⟨#[]⟩]) ?_ rfl ⟨rfl, ?_⟩
 ·simp [results,Tryz.results33,go_sem] <;>rfl
 ·repeat' (first|exact Below.refl _ _|refine Below.drew ?_|refine Below.alloc ?_ ?_ _|refine Below.setCell ?_ ?_ _| (simp;done) | (simp;omega))
theorem table_16 (w:World):Calls Tryz.prog 33 #[.int .i64 16] w fun e w'=>e= .returned (.agg #[.string ⟨(rowOf 16).1.toArray⟩, .string ⟨(rowOf 16).2.toArray⟩])∧Below w.heap.size w w':=by
 rw [rowOf_16]
 go_enter Tryz.func33,Tryz.ntmps33
 go_wp2
 refine bodyPost_ret (v:= .agg #[.string ⟨#[98,105,112,117,115,104]⟩, .string ⟨#[98]⟩]) ?_ rfl ⟨rfl, ?_⟩
 ·simp [results,Tryz.results33,go_sem] <;>rfl
 ·repeat' (first|exact Below.refl _ _|refine Below.drew ?_|refine Below.alloc ?_ ?_ _|refine Below.setCell ?_ ?_ _| (simp;done) | (simp;omega))
theorem table_21 (w:World):Calls Tryz.prog 33 #[.int .i64 21] w fun e w'=>e= .returned (.agg #[.string ⟨(rowOf 21).1.toArray⟩, .string ⟨(rowOf 21).2.toArray⟩])∧Below w.heap.size w w':=by
 rw [rowOf_21]
 go_enter Tryz.func33,Tryz.ntmps33
 go_wp2
 refine bodyPost_ret (v:= .agg #[.string ⟨#[105,108,111,97,100]⟩, .string ⟨#[117]⟩]) ?_ rfl ⟨rfl, ?_⟩
 ·simp [results,Tryz.results33,go_sem] <;>rfl
 ·repeat' (first|exact Below.refl _ _|refine Below.drew ?_|refine Below.alloc ?_ ?_ _|refine Below.setCell ?_ ?_ _| (simp;done) | (simp;omega))
theorem table_27 (w:World):Calls Tryz.prog 33 #[.int .i64 27] w fun e w'=>e= .returned (.agg #[.string ⟨(rowOf 27).1.toArray⟩, .string ⟨(rowOf 27).2.toArray⟩])∧Below w.heap.size w w':=by
 rw [rowOf_27]
 go_enter Tryz.func33,Tryz.ntmps33
 go_wp2
 refine bodyPost_ret (v:= .agg #[.string ⟨#[105,108,111,97,100,95,49]⟩, .string ⟨#[]⟩]) ?_ rfl ⟨rfl, ?_⟩
 ·simp [results,Tryz.results33,go_sem] <;>rfl
 ·repeat' (first|exact Below.refl _ _|refine Below.drew ?_|refine Below.alloc ?_ ?_ _|refine Below.setCell ?_ ?_ _| (simp;done) | (simp;omega))
theorem table_42 (w:World):Calls Tryz.prog 33 #[.int .i64 42] w fun e w'=>e= .returned (.agg #[.string ⟨(rowOf 42).1.toArray⟩, .string ⟨(rowOf 42).2.toArray⟩])∧Below w.heap.size w w':=by
 rw [rowOf_42]
 go_enter Tryz.func33,Tryz.ntmps33
 go_wp2
 refine bodyPost_ret (v:= .agg #[.string ⟨#[97,108,111,97,100,95,48]⟩, .string ⟨#[]⟩]) ?_ rfl ⟨rfl, ?_⟩
 ·simp [results,Tryz.results33,go_sem] <;>rfl
 ·repeat' (first|exact Below.refl _ _|refine Below.drew ?_|refine Below.alloc ?_ ?_ _|refine Below.setCell ?_ ?_ _| (simp;done) | (simp;omega))
theorem table_45 (w:World):Calls Tryz.prog 33 #[.int .i64 45] w fun e w'=>e= .returned (.agg #[.string ⟨(rowOf 45).1.toArray⟩, .string ⟨(rowOf 45).2.toArray⟩])∧Below w.heap.size w w':=by
 rw [rowOf_45]
 go_enter Tryz.func33,Tryz.ntmps33
 go_wp2
 refine bodyPost_ret (v:= .agg #[.string ⟨#[97,108,111,97,100,95,51]⟩, .string ⟨#[]⟩]) ?_ rfl ⟨rfl, ?_⟩
 ·simp [results,Tryz.results33,go_sem] <;>rfl
 ·repeat' (first|exact Below.refl _ _|refine Below.drew ?_|refine Below.alloc ?_ ?_ _|refine Below.setCell ?_ ?_ _| (simp;done) | (simp;omega))
theorem table_59 (w:World):Calls Tryz.prog 33 #[.int .i64 59] w fun e w'=>e= .returned (.agg #[.string ⟨(rowOf 59).1.toArray⟩, .string ⟨(rowOf 59).2.toArray⟩])∧Below w.heap.size w w':=by
 rw [rowOf_59]
 go_enter Tryz.func33,Tryz.ntmps33
 go_wp2
 refine bodyPost_ret (v:= .agg #[.string ⟨#[105,115,116,111,114,101,95,48]⟩, .string ⟨#[]⟩]) ?_ rfl ⟨rfl, ?_⟩
 ·simp [results,Tryz.results33,go_sem] <;>rfl
 ·repeat' (first|exact Below.refl _ _|refine Below.drew ?_|refine Below.alloc ?_ ?_ _|refine Below.setCell ?_ ?_ _| (simp;done) | (simp;omega))
theorem table_62 (w:World):Calls Tryz.prog 33 #[.int .i64 62] w fun e w'=>e= .returned (.agg #[.string ⟨(rowOf 62).1.toArray⟩, .string ⟨(rowOf 62).2.toArray⟩])∧Below w.heap.size w w':=by
 rw [rowOf_62]
 go_enter Tryz.func33,Tryz.ntmps33
 go_wp2
 refine bodyPost_ret (v:= .agg #[.string ⟨#[105,115,116,111,114,101,95,51]⟩, .string ⟨#[]⟩]) ?_ rfl ⟨rfl, ?_⟩
 ·simp [results,Tryz.results33,go_sem] <;>rfl
 ·repeat' (first|exact Below.refl _ _|refine Below.drew ?_|refine Below.alloc ?_ ?_ _|refine Below.setCell ?_ ?_ _| (simp;done) | (simp;omega))
theorem table_77 (w:World):Calls Tryz.prog 33 #[.int .i64 77] w fun e w'=>e= .returned (.agg #[.string ⟨(rowOf 77).1.toArray⟩, .string ⟨(rowOf 77).2.toArray⟩])∧Below w.heap.size w w':=by
 rw [rowOf_77]
 go_enter Tryz.func33,Tryz.ntmps33
 go_wp2
 refine bodyPost_ret (v:= .agg #[.string ⟨#[97,115,116,111,114,101,95,50]⟩, .string ⟨#[]⟩]) ?_ rfl ⟨rfl, ?_⟩
 ·simp [results,Tryz.results33,go_sem] <;>rfl
 ·repeat' (first|exact Below.refl _ _|refine Below.drew ?_|refine Below.alloc ?_ ?_ _|refine Below.setCell ?_ ?_ _| (simp;done) | (simp;omega))
theorem table_154 (w:World):Calls Tryz.prog 33 #[.int .i64 154] w fun e w'=>e= .returned (.agg #[.string ⟨(rowOf 154).1.toArray⟩, .string ⟨(rowOf 154).2.toArray⟩])∧Below w.heap.size w w':=by
 rw [rowOf_154]
 go_enter Tryz.func33,Tryz.ntmps33
 go_wp2
 refine bodyPost_ret (v:= .agg #[.string ⟨#[105,102,110,101]⟩, .string ⟨#[106]⟩]) ?_ rfl ⟨rfl, ?_⟩
 ·simp [results,Tryz.results33,go_sem] <;>rfl
 ·repeat' (first|exact Below.refl _ _|refine Below.drew ?_|refine Below.alloc ?_ ?_ _|refine Below.setCell ?_ ?_ _| (simp;done) | (simp;omega))
theorem table_157 (w:World):Calls Tryz.prog 33 #[.int .i64 157] w fun e w'=>e= .returned (.agg #[.string ⟨(rowOf 157).1.toArray⟩, .string ⟨(rowOf 157).2.toArray⟩])∧Below w.heap.size w w':=by
 rw [rowOf_157]
 go_enter Tryz.func33,Tryz.ntmps33
 go_wp2
 refine bodyPost_ret (v:= .agg #[.string ⟨#[105,102,103,116]⟩, .string ⟨#[106]⟩]) ?_ rfl ⟨rfl, ?_⟩
 ·simp [results,Tryz.results33,go_sem] <;>rfl
 ·repeat' (first|exact Below.refl _ _|refine Below.drew ?_|refine Below.alloc ?_ ?_ _|refine Below.setCell ?_ ?_ _| (simp;done) | (simp;omega))
theorem table_160 (w:World):Calls Tryz.prog 33 #[.int .i64 160] w fun e w'=>e= .returned (.agg #[.string ⟨(rowOf 160).1.toArray⟩, .string ⟨(rowOf 160).2.toArray⟩])∧Below w.heap.size w w':=by
 rw [rowOf_160]
 go_enter Tryz.func33,Tryz.ntmps33
 go_wp2
 refine bodyPost_ret (v:= .agg #[.string ⟨#[105,102,95,105,99,109,112,110,101]⟩, .string ⟨#[106]⟩]) ?_ rfl ⟨rfl, ?_⟩
 ·simp [results,Tryz.results33,go_sem] <;>rfl
 ·repeat' (first|exact Below.refl _ _|refine Below.drew ?_|refine Below.alloc ?_ ?_ _|refine Below.setCell ?_ ?_ _| (simp;done) | (simp;omega))
theorem table_163 (w:World):Calls Tryz.prog 33 #[.int .i64 163] w fun e w'=>e= .returned (.agg #[.string ⟨(rowOf 163).1.toArray⟩, .string ⟨(rowOf 163).2.toArray⟩])∧Below w.heap.size w w':=by
 rw [rowOf_163]
 go_enter Tryz.func33,Tryz.ntmps33
 go_wp2
 refine bodyPost_ret (v:= .agg #[.string ⟨#[105,102,95,105,99,109,112,103,116]⟩, .string ⟨#[106]⟩]) ?_ rfl ⟨rfl, ?_⟩
 ·simp [results,Tryz.results33,go_sem] <;>rfl
 ·repeat' (first|exact Below.refl _ _|refine Below.drew ?_|refine Below.alloc ?_ ?_ _|refine Below.setCell ?_ ?_ _| (simp;done) | (simp;omega))
theorem table_166 (w:World):Calls Tryz.prog 33 #[.int .i64 166] w fun e w'=>e= .returned (.agg #[.string ⟨(rowOf 166).1.toArray⟩, .string ⟨(rowOf 166).2.toArray⟩])∧Below w.heap.size w w':=by
 rw [rowOf_166]
 go_enter Tryz.func33,Tryz.ntmps33
 go_wp2
 refine bodyPost_ret (v:= .agg #[.string ⟨#[105,102,95,97,99,109,112,110,101]⟩, .string ⟨#[106]⟩]) ?_ rfl ⟨rfl, ?_⟩
 ·simp [results,Tryz.results33,go_sem] <;>rfl
 ·repeat' (first|exact Below.refl _ _|refine Below.drew ?_|refine Below.alloc ?_ ?_ _|refine Below.setCell ?_ ?_ _| (simp;done) | (simp;omega))
theorem idxa1 (w:World) (k:IntKind) (cs:Array Value) (x:Int) (h0:0≤x) (hx:x< (7:Nat)) (hs:cs.size=7):(Instr.index 140 (.agg cs) (.int k x)).run Tryz.prog w= .ok (cs.getD x.toNat undef) w:=
 run_index_arr (n:=7) Tryz.underlying140 Tryz.underlying9 rfl info_string w k cs x h0 hx hs
theorem idxb1 (w:World) (k:IntKind) (cs:Array Value) (x:Int) (h0:0≤x) (hx:x< (15:Nat)) (hs:cs.size=15):(Instr.index 141 (.agg cs) (.int k x)).run Tryz.prog w= .ok (cs.getD x.toNat undef) w:=
 run_index_arr (n:=15) Tryz.underlying141 Tryz.underlying9 rfl info_string w k cs x h0 hx hs
attribute [local go_sem] idxa1 idxb1
theorem table_1 (w:World):Calls Tryz.prog 33 #[.int .i64 1] w fun e w'=>e= .returned (.agg #[.string ⟨(rowOf 1).1.toArray⟩, .string ⟨(rowOf 1).2.toArray⟩])∧Below w.heap.size w w':=by
 rw [rowOf_1]
 go_enter Tryz.func33,Tryz.ntmps33
 go_wp2
 refine bodyPost_ret (v:= .agg #[.string ⟨#[97,99,111,110,115,116,95,110,117,108,108]⟩, .string ⟨#[]⟩]) ?_ rfl ⟨rfl, ?_⟩
 ·simp [results,Tryz.results33,go_sem] <;>rfl
 ·repeat' (first|exact Below.refl _ _|refine Below.drew ?_|refine Below.alloc ?_ ?_ _|refine Below.setCell ?_ ?_ _| (simp;done) | (simp;omega))
theorem table_4 (w:World):Calls Tryz.prog 33 #[.int .i64 4] w fun e w'=>e= .returned (.agg #[.string ⟨(rowOf 4).1.toArray⟩, .string ⟨(rowOf 4).2.toArray⟩])∧Below w.heap.size w w':=by
 rw [rowOf_4]
 go_enter Tryz.func33,Tryz.ntmps33
 go_wp2
 refine bodyPost_ret (v:= .agg #[.string ⟨#[105,99,111,110,115,116,95,49]⟩, .string ⟨#[]⟩]) ?_ rfl ⟨rfl, ?_⟩
 ·simp [results,Tryz.results33,go_sem] <;>rfl
 ·repeat' (first|exact Below.refl _ _|refine Below.drew ?_|refine Below.alloc ?_ ?_ _|refine Below.setCell ?_ ?_ _| (simp;done) | (simp;omega))
theorem table_7 (w:World):Calls Tryz.prog 33 #[.int .i64 7] w fun e w'=>e= .returned (.agg #[.string ⟨(rowOf 7).1.toArray⟩, .string ⟨(rowOf 7).2.toArray⟩])∧Below w.heap.size w w':=by
 rw [rowOf_7]
 go_enter Tryz.func33,Tryz.ntmps33
 go_wp2
 refine bodyPost_ret (v:= .agg #[.string ⟨#[105,99,111,110,115,116,95,52]⟩, .string ⟨#[]⟩]) ?_ rfl ⟨rfl, ?_⟩
 ·simp [results,Tryz.results33,go_sem] <;>rfl
 ·repeat' (first|exact Below.refl _ _|refine Below.drew ?_|refine Below.alloc ?_ ?_ _|refine Below.setCell ?_ ?_ _| (simp;done) | (simp;omega))
theorem table_17 (w:World):Calls Tryz.prog 33 #[.int .i64 17] w fun e w'=>e= .returned (.agg #[.string ⟨(rowOf 17).1.toArray⟩, .string ⟨(rowOf 17).2.toArray⟩])∧Below w.heap.size w w':=by
 rw [rowOf_17]
 go_enter Tryz.func33,Tryz.ntmps33
 go_wp2
 refine bodyPost_ret (v:= .agg #[.string ⟨#[115,105,112,117,115,104]⟩, .string ⟨#[115]⟩]) ?_ rfl ⟨rfl, ?_⟩
 ·simp [results,Tryz.results33,go_sem] <;>rfl
 ·repeat' (first|exact Below.refl _ _|refine Below.drew ?_|refine Below.alloc ?_ ?_ _|refine Below.setCell ?_ ?_ _| (simp;done) | (simp;omega))
theorem table_25 (w:World):Calls Tryz.prog 33 #[.int .i64 25] w fun e w'=>e= .returned (.agg #[.string ⟨(rowOf 25).1.toArray⟩, .string ⟨(rowOf 25).2.toArray⟩])∧Below w.heap.size w w':=by
 rw [rowOf_25]
 go_enter Tryz.func33,Tryz.ntmps33
 go_wp2
 refine bodyPost_ret (v:= .agg #[.string ⟨#[97,108,111,97,100]⟩, .string ⟨#[117]⟩]) ?_ rfl ⟨rfl, ?_⟩
 ·simp [results,Tryz.results33,go_sem] <;>rfl
 ·repeat' (first|exact Below.refl _ _|refine Below.drew ?_|refine Below.alloc ?_ ?_ _|refine Below.setCell ?_ ?_ _| (simp;done) | (simp;omega))
theorem table_28 (w:World):Calls Tryz.prog 33 #[.int .i64 28] w fun e w'=>e= .returned (.agg #[.string ⟨(rowOf 28).1.toArray⟩, .string ⟨(rowOf 28).2.toArray⟩])∧Below w.heap.size w w':=by
 rw [rowOf_28]
 go_enter Tryz.func33,Tryz.ntmps33
 go_wp2
 refine bodyPost_ret (v:= .agg #[.string ⟨#[105,108,111,97,100,95,50]⟩, .string ⟨#[]⟩]) ?_ rfl ⟨rfl, ?_⟩
 ·simp [results,Tryz.results33,go_sem] <;>rfl
 ·repeat' (first|exact Below.refl _ _|refine Below.drew ?_|refine Below.alloc ?_ ?_ _|refine Below.setCell ?_ ?_ _| (simp;done) | (simp;omega))
theorem table_43 (w:World):Calls Tryz.prog 33 #[.int .i64 43] w fun e w'=>e= .returned (.agg #[.string ⟨(rowOf 43).1.toArray⟩, .string ⟨(rowOf 43).2.toArray⟩])∧Below w.heap.size w w':=by
 rw [rowOf_43]
 go_enter Tryz.func33,Tryz.ntmps33
 go_wp2
 refine bodyPost_ret (v:= .agg #[.string ⟨#[97,108,111,97,100,95,49]⟩, .string ⟨#[]⟩]) ?_ rfl ⟨rfl, ?_⟩
 ·simp [results,Tryz.results33,go_sem] <;>rfl
 ·repeat' (first|exact Below.refl _ _|refine Below.drew ?_|refine Below.alloc ?_ ?_ _|refine Below.setCell ?_ ?_ _| (simp;done) | (simp;omega))
theorem table_54 (w:World):Calls Tryz.prog 33 #[.int .i64 54] w fun e w'=>e= .returned (.agg #[.string ⟨(rowOf 54).1.toArray⟩, .string ⟨(rowOf 54).2.toArray⟩])∧Below w.heap.size w w':=by
 rw [rowOf_54]
 go_enter Tryz.func33,Tryz.ntmps33
 go_wp2
 refine bodyPost_ret (v:= .agg #[.string ⟨#[105,115,116,111,114,101]⟩, .string ⟨#[117]⟩]) ?_ rfl ⟨rfl, ?_⟩
 ·simp [results,Tryz.results33,go_sem] <;>rfl
 ·repeat' (first|exact Below.refl _ _|refine Below.drew ?_|refine Below.alloc ?_ ?_ _|refine Below.setCell ?_ ?_ _| (simp;done) | (simp;omega))
theorem table_60 (w:World):Calls Tryz.prog 33 #[.int .i64 60] w fun e w'=>e= .returned (.agg #[.string ⟨(rowOf 60).1.toArray⟩, .string ⟨(rowOf 60).2.toArray⟩])∧Below w.heap.size w w':=by
 rw [rowOf_60]
 go_enter Tryz.func33,Tryz.ntmps33
 go_wp2
 refine bodyPost_ret (v:= .agg #[.string ⟨#[105,115,116,111,114,101,95,49]⟩, .string ⟨#[]⟩]) ?_ rfl ⟨rfl, ?_⟩
 ·simp [results,Tryz.results33,go_sem] <;>rfl
 ·repeat' (first|exact Below.refl _ _|refine Below.drew ?_|refine Below.alloc ?_ ?_ _|refine Below.setCell ?_ ?_ _| (simp;done) | (simp;omega))
theorem table_75 (w:World):Calls Tryz.prog 33 #[.int .i64 75] w fun e w'=>e= .returned (.agg #[.string ⟨(rowOf 75).1.toArray⟩, .string ⟨(rowOf 75).2.toArray⟩])∧Below w.heap.size w w':=by
 rw [rowOf_75]
 go_enter Tryz.func33,Tryz.ntmps33
 go_wp2
 refine bodyPost_ret (v:= .agg #[.string ⟨#[97,115,116,111,114,101,95,48]⟩, .string ⟨#[]⟩]) ?_ rfl ⟨rfl, ?_⟩
 ·simp [results,Tryz.results33,go_sem] <;>rfl
 ·repeat' (first|exact Below.refl _ _|refine Below.drew ?_|refine Below.alloc ?_ ?_ _|refine Below.setCell ?_ ?_ _| (simp;done) | (simp;omega))
theorem table_78 (w:World):Calls Tryz.prog 33 #[.int .i64 78] w fun e w'=>e= .returned (.agg #[.string ⟨(rowOf 78).1.toArray⟩, .string ⟨(rowOf 78).2.toArray⟩])∧Below w.heap.size w w':=by
 rw [rowOf_78]
 go_enter Tryz.func33,Tryz.ntmps33
 go_wp2
 refine bodyPost_ret (v:= .agg #[.string ⟨#[97,115,116,111,114,101,95,51]⟩, .string ⟨#[]⟩]) ?_ rfl ⟨rfl, ?_⟩
 ·simp [results,Tryz.results33,go_sem] <;>rfl
 ·repeat' (first|exact Below.refl _ _|refine Below.drew ?_|refine Below.alloc ?_ ?_ _|refine Below.setCell ?_ ?_ _| (simp;done) | (simp;omega))
theorem table_155 (w:World):Calls Tryz.prog 33 #[.int .i64 155] w fun e w'=>e= .returned (.agg #[.string ⟨(rowOf 155).1.toArray⟩, .string ⟨(rowOf 155).2.toArray⟩])∧Below w.heap.size w w':=by
 rw [rowOf_155]
 go_enter Tryz.func33,Tryz.ntmps33
 go_wp2
 refine bodyPost_ret (v:= .agg #[.string ⟨#[105,102,108,116]⟩, .string ⟨#[106]⟩]) ?_ rfl ⟨rfl, ?_⟩
 ·simp [results,Tryz.results33,go_sem] <;>rfl
 ·repeat' (first|exact Below.refl _ _|refine Below.drew ?_|refine Below.alloc ?_ ?_ _|refine Below.setCell ?_ ?_ _| (simp;done) | (simp;omega))
theorem table_158 (w:World):Calls Tryz.prog 33 #[.int .i64 158] w fun e w'=>e= .returned (.agg #[.string ⟨(rowOf 158).1.toArray⟩, .string ⟨(rowOf 158).2.toArray⟩])∧Below w.heap.size w w':=by
 rw [rowOf_158]
 go_enter Tryz.func33,Tryz.ntmps33
 go_wp2
 refine bodyPost_ret (v:= .agg #[.string ⟨#[105,102,108,101]⟩, .string ⟨#[106]⟩]) ?_ rfl ⟨rfl, ?_⟩
 ·simp [results,Tryz.results33,go_sem] <;>rfl
 ·repeat' (first|exact Below.refl _ _|refine Below.drew ?_|refine Below.alloc ?_ ?_ _|refine Below.setCell ?_ ?_ _| (simp;done) | (simp;omega))
theorem table_161 (w:World):Calls Tryz.prog 33 #[.int .i64 161] w fun e w'=>e= .returned (.agg #[.string ⟨(rowOf 161).1.toArray⟩, .string ⟨(rowOf 161).2.toArray⟩])∧Below w.heap.size w w':=by
 rw [rowOf_161]
 go_enter Tryz.func33,Tryz.ntmps33
 go_wp2
 refine bodyPost_ret (v:= .agg #[.string ⟨#[105,102,95,105,99,109,112,108,116]⟩, .string ⟨#[106]⟩]) ?_ rfl ⟨rfl, ?_⟩
 ·simp [results,Tryz.results33,go_sem] <;>rfl
 ·repeat' (first|exact Below.refl _ _|refine Below.drew ?_|refine Below.alloc ?_ ?_ _|refine Below.setCell ?_ ?_ _| (simp;done) | (simp;omega))
theorem table_164 (w:World):Calls Tryz.prog 33 #[.int .i64 164] w fun e w'=>e= .returned (.agg #[.string ⟨(rowOf 164).1.toArray⟩, .string ⟨(rowOf 164).2.toArray⟩])∧Below w.heap.size w w':=by
 rw [rowOf_164]
 go_enter Tryz.func33,Tryz.ntmps33
 go_wp2
 refine bodyPost_ret (v:= .agg #[.string ⟨#[105,102,95,105,99,109,112,108,101]⟩, .string ⟨#[106]⟩]) ?_ rfl ⟨rfl, ?_⟩
 ·simp [results,Tryz.results33,go_sem] <;>rfl
 ·repeat' (first|exact Below.refl _ _|refine Below.drew ?_|refine Below.alloc ?_ ?_ _|refine Below.setCell ?_ ?_ _| (simp;done) | (simp;omega))
theorem table_167 (w:World):Calls Tryz.prog 33 #[.int .i64 167] w fun e w'=>e= .returned (.agg #[.string ⟨(rowOf 167).1.toArray⟩, .string ⟨(rowOf 167).2.toArray⟩])∧Below w.heap.size w w':=by
 rw [rowOf_167]
 go_enter Tryz.func33,Tryz.ntmps33
 go_wp2
 refine bodyPost_ret (v:= .agg #[.string ⟨#[103,111,116,111]⟩, .string ⟨#[106]⟩]) ?_ rfl ⟨rfl, ?_⟩
 ·simp [results,Tryz.results33,go_sem] <;>rfl
 ·repeat' (first|exact Below.refl _ _|refine Below.drew ?_|refine Below.alloc ?_ ?_ _|refine Below.setCell ?_ ?_ _| (simp;done) | (simp;omega))
end Go.Proofs.YtlcidkiplidamaaGreatDoor
