/-
  What the laws rest on, part 32: walks of the program's functions and plain laws. Conditions: none but those that each theorem names.
-/
import Derived.Test.YtlcidkiplidamaaGreatDoorB00
import Derived.Test.YtlcidkiplidamaaGreatDoorB31
set_option linter.unusedSimpArgs false
set_option linter.unusedVariables false
set_option maxRecDepth 100000
set_option maxHeartbeats 4000000
namespace Go.Proofs.YtlcidkiplidamaaGreatDoor
open Go Go.RowKit Lib Go.Maps
theorem bqc {ws:List ByteArray} {l:List ByteArray} {i:Nat} {s:ByteArray} (h:ws.drop 1=l) (hs:l[i]?=some s):ws[i+1]?=some s:=by
 rw [←hs, ←h,List.getElem?_drop,Nat.add_comm]
theorem jq9:(Tryz.prog.info? 132).map (fun i=> (i.zero,i.size,i.bytes))=some (some (.agg #[.int .i64 0, .int .i64 0, .string ⟨#[]⟩]),3,32):=by kernel_rfl
theorem InK.jump {w:World} {ρ:Nat→Nat} {B kb:Nat} {m:AsM} {U:RtV} {σ':AsK} {W W2:World} {ρ':Nat→Nat} {V':RkV} {g6 cap6:Nat} {x:AsF} (h:InK w ρ B kb m U σ' W ρ' V') (hg:W.grownBy W2 U.jv.ownBlock)
  (ho:W2.ownsRow B 132 3 (.slice (some ⟨g6,0,none⟩) (m.jumps.length+1) cap6) (m.jumps.length+1) (m.jumps.flatMap AsF.rcells++x.rcells)) (hgg:U.jv.ownBlock=some g6∨W.heap.size≤g6):
  ∃ρ2:Nat→Nat,InK w ρ B kb { m with jumps:=m.jumps++ [x] } { U with jv:= .slice (some ⟨g6,0,none⟩) (m.jumps.length+1) cap6 } σ' (W2.setCell ⟨kb,22,none⟩ (.slice (some ⟨g6,0,none⟩) (m.jumps.length+1) cap6)) ρ2 V'∧Chg [1,11] W ρ' (W2.setCell ⟨kb,22,none⟩ (.slice (some ⟨g6,0,none⟩) (m.jumps.length+1) cap6)) ρ2:=by
 have hkl:=h.k.box.lt
 have hgk:g6≠kb:=by
  rintro rfl
  rcases hgg with e|e
  ·exact absurd ((h.mt.jumps.2 _ e).symm.trans h.k.kc) (by decide)
  omega
 have hkU:U.jv.ownBlock≠some kb:=fun e=>absurd ((h.mt.jumps.2 _ e).symm.trans h.k.kc) (by decide)
 have hbx:Bx W2 kb (aq3 σ' V'++aq4 m U) 80:=(hg.block kb hkl (fun e=>hkU e.symm)).trans h.k.box
 obtain⟨hC,hl,hk,hoc⟩:=h.k.addR (w':=W2.setCell ⟨kb,22,none⟩ (.slice (some ⟨g6,0,none⟩) (m.jumps.length+1) cap6)) (c:=11) hg.os hg.tape hg.output (by simpa using hg.size) h.mt.jumps.2
  (fun q hq h1 h2=> (Below.heap_setCell _ _ _ _ h1).trans (hg.block q hq (fun e=>h2 e.symm))) (hbx.set 22 _) (aqY ho hgk _) hgg (by decide)
 exact⟨paint ρ' g6 11,⟨h.k.turn hC hl hk (hbx.set 22 _) rfl rfl rfl rfl rfl (by intro c h1 h2 hm;simp at hm;omega),⟨hC.own h.mt.code (by decide),hC.own h.mt.labs (by decide),⟨bqq hoc.1 (by simp) (by simp),hoc.2⟩,hC.own h.mt.traps (by decide),h.mt.none⟩,h.chg.trans (hC.mono (by simp))⟩,hC⟩
theorem kqa {ρ:Nat→Nat} {A:Option Addr} {n cap:Nat} {ws:List ByteArray} {w:World} {c:Int} (hw:WdA w (Un ρ) A n cap ws) (hn:0<n) (hc:aqP (ws.headD ⟨#[]⟩).data.toList=c):
  ∃(b off:Nat) (s0:ByteArray),A=some ⟨b,off,none⟩∧b<w.heap.size∧Un ρ b∧(∀j s,ws[j]?=some s→w.cell? ⟨b,off+j,none⟩=some (.string s))∧w.cell? ⟨b,off,none⟩=some (.string s0)∧ ∀W:World,Calls Tryz.prog 168 #[.string s0] W fun e w'=>e= .returned (.int .i64 c)∧Below W.heap.size W w':=by
 have hnl:=hw.len
 obtain⟨b,off,hA,hb,hub,hcc⟩:=hw.hat hn
 obtain⟨s0,hs0⟩: ∃s,ws[0]?=some s:=⟨_,List.getElem?_eq_getElem (by omega)⟩
 have hh:ws.headD ⟨#[]⟩=s0:=by
  cases ws with
  |nil=>cases hs0
  |cons a l=>cases hs0;rfl
 refine⟨b,off,s0,hA,hb,hub,hcc,hcc 0 s0 hs0,fun W=> ?_⟩
 have hc':aqP s0.toList=c:=by rw [ByteArray.toList_eq, ←hh];exact hc
 have:=iqz s0 W
 rw [hc'] at this
 exact this
theorem fqg {c:Int} {nm f:List UInt8} (hnm:(aqc c).1=nm) (hf:(aqc c).2=f) (W:World):Calls Tryz.prog 169 #[.int .i64 c] W fun e w'=>e= .returned (.tuple #[.string ⟨nm.toArray⟩, .string ⟨f.toArray⟩])∧Below W.heap.size W w':=by
 have:=iqy c W
 rw [hnm,hf] at this
 exact this
theorem lqQ (ρ:Nat→Nat) (B kb:Nat) (σ:AsK) (V:RkV) (m:AsM) (U:RtV) (A:Option Addr) (n cap:Nat) (ws:List ByteArray) (w:World) (N:Nat) (hK:RkC w ρ B kb σ V (aq4 m U)) (hso:σ.m.isSome=true) (hM:RtC w ρ B m U) (hw:WdA w (Un ρ) A n cap ws) (hz:SmW ws) (hn:0<n) (hl:σ.c.pool.length≤900000) (hlc:m.mv.code.length≤900000) (hlj:m.jumps.length≤900000)
  (c:Int) (hc:aqP (ws.headD ⟨#[]⟩).data.toList=c) (hc0:c<0):
  Calls Tryz.prog 137 #[.pointer (some ⟨kb,0,none⟩), .slice A n cap] w (cqh [1,3,10,11] w ρ B kb (σ.instr m ws)):=by
 have hnl:=hw.len
 obtain⟨b,off,s0,rfl,hb,hub,hcc,c0,hfi⟩:=kqa hw hn hc
 have HFI:=Hq hfi
 have hle:=hw.le
 have hmx:=hw.max
 have HH:=Hq hK
 have hB:=hK.hB
 have hkl:=hK.box.lt
 have HCC:=Hq hcc
 have HUB:=Hq hub
 have HZ:=Hq hz
 have HI0:=Hq (show InK w ρ B kb m U σ w ρ V from⟨hK,hM,Chg.refl _ _ _⟩)
 have HP:=Hq (show σ.instr m ws=none from fqZ (by rw [hc];exact hc0))
 clear hK hM hw hz hcc hc hfi hub
 go_enter Tryz.func137,Tryz.ntmps137
 go_wp2_with (go_at_call 168;refine aqa ?_)
 refine aqb ?_
 refine(HFI.out _).mono ?_
 rintro e w1 ⟨rfl,hb1⟩
 have HI1:=Hq (HI0.out.below hb1)
 clear hb1
 go_wp2_with fail
 go_ret
 exact aqh HP.out (HI1.out.chg.below HI0.out.k.low hB (by decide))
theorem kqb (ρ:Nat→Nat) (B kb:Nat) (σ:AsK) (V:RkV) (m:AsM) (U:RtV) (A:Option Addr) (n cap:Nat) (ws:List ByteArray) (w:World) (N:Nat) (hK:RkC w ρ B kb σ V (aq4 m U)) (hso:σ.m.isSome=true) (hM:RtC w ρ B m U) (hw:WdA w (Un ρ) A n cap ws) (hz:SmW ws) (hn:0<n) (hl:σ.c.pool.length≤900000) (hlc:m.mv.code.length≤900000) (hlj:m.jumps.length≤900000)
  (c:Int) (hc:aqP (ws.headD ⟨#[]⟩).data.toList=c) (hc0:0≤c) (nm:List UInt8) (hnm:(aqc c).1=nm) (f:List UInt8) (hf:(aqc c).2=f) (h18:c=18→f= [117]) (hlen:ws.length - 1≠bqY f):
  Calls Tryz.prog 137 #[.pointer (some ⟨kb,0,none⟩), .slice A n cap] w (cqh [1,3,10,11] w ρ B kb (σ.instr m ws)):=by
 have hfm:=eq0 c
 rw [hf] at hfm
 have hnl:=hw.len
 obtain⟨b,off,s0,rfl,hb,hub,hcc,c0,hfi⟩:=kqa hw hn hc
 have HFI:=Hq hfi
 have hle:=hw.le
 have hmx:=hw.max
 have HH:=Hq hK
 have hB:=hK.hB
 have hkl:=hK.box.lt
 have HCC:=Hq hcc
 have HUB:=Hq hub
 have HZ:=Hq hz
 have HI0:=Hq (show InK w ρ B kb m U σ w ρ V from⟨hK,hM,Chg.refl _ _ _⟩)
 have HFO:=Hq (fun W=>fqg hnm hf W)
 have hcr:=aqM (ws.headD ⟨#[]⟩).data.toList
 rw [hc] at hcr
 have hd0: ¬(c<0):=by omega
 obtain⟨AC,kC,hcv⟩:=aqf hM.code.1
 have hcw:IntKind.u8.wrap c=c:=by show c%256=c;omega
 have HP:=Hq (show σ.instr m ws=none from hqF hc hf hlen)
 obtain⟨q18,hq18⟩: ∃q,(c==18)=q:=⟨_,rfl⟩
 have HF:=Hq hf
 clear hK hM hw hz hcc hc hfi hub hnm hf
 simp only [fqc,List.mem_cons,List.not_mem_nil,or_false] at hfm
 rcases hfm with rfl|rfl|rfl|rfl|rfl|rfl|rfl|rfl|rfl|rfl
 all_goals
  first
   |have hnn:((n:Int) !=2)=true:=by rw [hnl];simp [bqY] at hlen⊢;omega
   |have hnn:((n:Int) !=4)=true:=by rw [hnl];simp [bqY] at hlen⊢;omega
   |have hnn:((n:Int) !=3)=true:=by rw [hnl];simp [bqY] at hlen⊢;omega
   |have hnn:((n:Int) !=1)=true:=by rw [hnl];simp [bqY] at hlen⊢;omega
  clear hnl hlen
  cases q18
 all_goals first
  | (exfalso;exact absurd (h18 (eq_of_beq hq18)) (by decide))
  |clear h18
 all_goals
  go_enter Tryz.func137,Tryz.ntmps137
  go_wp2_with (go_at_call 168;refine aqa ?_)
  refine aqb ?_
  refine(HFI.out _).mono ?_
  rintro e w1 ⟨rfl,hb1⟩
  have HI1:=Hq (HI0.out.below hb1)
  go_wp2_with (go_at_call 169;refine aqa ?_)
  refine aqb ?_
  refine(HFO.out _).mono ?_
  rintro e w2 ⟨rfl,hb2⟩
  have HI2:=Hq (HI1.out.below hb2)
  have d19:w2.cell? ⟨kb,19,none⟩=some (.slice AC m.mv.code.length kC):=by rw [←hcv];exact HI2.out.k.box.cell 19 rfl
  clear hb1 hb2 HI0 HI1 c0
  go_wp2_with fail
  first
   | (refine wp_loop_rounds 3 ?_
      repeat(rw [rounds_succ];go_wp2_with fail)
      go_ret
      exact aqh HP.out (HI2.out.chg.below HH.out.low hB (by decide)))
   | (go_ret
      exact aqh HP.out (HI2.out.chg.below HH.out.low hB (by decide)))
theorem nqG (ρ:Nat→Nat) (B kb:Nat) (σ:AsK) (V:RkV) (m:AsM) (U:RtV) (A:Option Addr) (n cap:Nat) (ws:List ByteArray) (w:World) (N:Nat) (hK:RkC w ρ B kb σ V (aq4 m U)) (hso:σ.m.isSome=true) (hM:RtC w ρ B m U) (hw:WdA w (Un ρ) A n cap ws) (hz:SmW ws) (hn:0<n) (hl:σ.c.pool.length≤900000) (hlc:m.mv.code.length≤900000) (hlj:m.jumps.length≤900000)
  (c:Int) (hc:aqP (ws.headD ⟨#[]⟩).data.toList=c) (hc0:0≤c) (nm:List UInt8) (hnm:(aqc c).1=nm) (hf:(aqc c).2= []) (h18:(c==18)=false) (hlen:ws.length - 1=bqY []):
  Calls Tryz.prog 137 #[.pointer (some ⟨kb,0,none⟩), .slice A n cap] w (cqh [1,3,10,11] w ρ B kb (σ.instr m ws)):=by
 have hnl:=hw.len
 obtain⟨b,off,s0,rfl,hb,hub,hcc,c0,hfi⟩:=kqa hw hn hc
 have HFI:=Hq hfi
 have hle:=hw.le
 have hmx:=hw.max
 have HH:=Hq hK
 have hB:=hK.hB
 have hkl:=hK.box.lt
 have HCC:=Hq hcc
 have HUB:=Hq hub
 have HZ:=Hq hz
 have HI0:=Hq (show InK w ρ B kb m U σ w ρ V from⟨hK,hM,Chg.refl _ _ _⟩)
 have HFO:=Hq (fun W=>fqg hnm hf W)
 have hcr:=aqM (ws.headD ⟨#[]⟩).data.toList
 rw [hc] at hcr
 have hd0: ¬(c<0):=by omega
 obtain⟨AC,kC,hcv⟩:=aqf hM.code.1
 have hcw:IntKind.u8.wrap c=c:=by show c%256=c;omega
 replace hlen:ws.length - 1=0:=hlen
 have hnn:n=1:=by omega
 subst hnn
 have HGO:=bq1 (σ:=σ) (m:=m) hc hc0 hnm hf hlen
 have hdr:ws.drop 1= []:=List.eq_nil_of_length_eq_zero (by rw [List.length_drop];omega)
 rw [hdr] at HGO
 have HP:=Hq (show σ.instr m ws=some { σ with m:=some { m with mv:={ m.mv with code:=m.mv.code++ [aqn c] } } } from HGO.trans (by rfl))
 clear hK hM hw hz hcc hc hfi hub hnm hf hnl hlen hdr
 go_enter Tryz.func137,Tryz.ntmps137
 go_wp2_with (go_at_call 168;refine aqa ?_)
 refine aqb ?_
 refine(HFI.out _).mono ?_
 rintro e w1 ⟨rfl,hb1⟩
 have HI1:=Hq (HI0.out.below hb1)
 go_wp2_with (go_at_call 169;refine aqa ?_)
 refine aqb ?_
 refine(HFO.out _).mono ?_
 rintro e w2 ⟨rfl,hb2⟩
 have HI2:=Hq (HI1.out.below hb2)
 have d19:w2.cell? ⟨kb,19,none⟩=some (.slice AC m.mv.code.length kC):=by rw [←hcv];exact HI2.out.k.box.cell 19 rfl
 clear hb1 hb2 HI0 HI1 c0
 go_wp2_with fail
 refine wp_loop_rounds 1 ?_
 rw [rounds_succ]
 go_wp2_with fail
 have hz2:=HI2.out.chg.size
 have HI3:=Hq (HI2.out.below ((Below.refl _ _).alloc (Nat.le_refl _) (.cells #[.int .u8 c] 5)))
 have HB3:=Hq (show RwB w (w2.alloc (.cells #[.int .u8 c] 5)) ρ w2.heap.size 1 [aqn c] from⟨by
  have h1:=cq7 w2 [.int .u8 c] 5 w.heap.size 1 hz2 rfl (by simp [maxLen])
  have h2:=aqF c
  rw [hcw] at h2
  rw [List.map_cons,List.map_nil, ←h2]
  exact h1,HI2.out.k.low.fresh (Nat.le_refl _)⟩)
 clear HI2 d19
 refine wp_loop_rounds 1 ?_
 rw [rounds_succ]
 have c19:=HI3.out.k.box.cell 19 (show _=some U.cv from rfl)
 rw [hcv] at c19
 go_wp2_with (at_builtin;refine aqa ?_)
 refine aqb ?_
 have HOC:=Hq (show World.ownsRow _ B 5 1 (.slice AC m.mv.code.length kC) m.mv.code.length (m.mv.code.map bV) from by rw [←hcv];exact HI3.out.mt.code.1)
 refine aq5 (v:= .slice AC m.mv.code.length kC) (n:=m.mv.code.length) (xs:=m.mv.code.map bV) (news:=([aqn c]:List UInt8).map bV) rfl _ _ 34 rfl Tryz.underlying34 aqu rfl (by omega) B rfl HOC.out rfl (by simp [aqT]) (fun _=> ⟨_,rfl,HB3.out.cells⟩) (dqd _) (by first|omega| (simp [aqT];omega)) (by simp only [maxLen];first|omega| (simp [aqT];omega)) (by first|omega| (simp [aqT];omega)) (HI3.out.k.hB) ?_
 intro g9 k9 W9 ho hg hbb hgg hlt
 have HG9:=Hq hg
 have HO9:=Hq ho
 have HGG:=Hq hgg
 have e19:=((HG9.out.block kb HI3.out.k.box.lt (fun e=>absurd ((HI3.out.mt.code.2 _ (show U.cv.ownBlock=some kb by rw [hcv];exact e.symm)).symm.trans HI3.out.k.kc) (by decide))).trans HI3.out.k.box)
 have c9:=Bx.cell e19 19 rfl
 have z9:=Bx.frozen e19 19
 clear ho hg hbb hgg e19
 go_wp2_with fail
 go_ret
 obtain⟨ρ9,U9,hk9,hm9,hc9⟩:=HI3.out.fin (bytes:= [aqn c]) hso (show World.grownBy _ _ U.cv.ownBlock by rw [hcv];exact HG9.out) HO9.out rfl (show U.cv.ownBlock=some g9∨_ by rw [hcv];exact HGG.out)
 exact aqs (V':=V) HP.out hk9 ⟨_,rfl,hm9⟩ hc9
theorem nqH (ρ:Nat→Nat) (B kb:Nat) (σ:AsK) (V:RkV) (m:AsM) (U:RtV) (A:Option Addr) (n cap:Nat) (ws:List ByteArray) (w:World) (N:Nat) (hK:RkC w ρ B kb σ V (aq4 m U)) (hso:σ.m.isSome=true) (hM:RtC w ρ B m U) (hw:WdA w (Un ρ) A n cap ws) (hz:SmW ws) (hn:0<n) (hl:σ.c.pool.length≤900000) (hlc:m.mv.code.length≤900000) (hlj:m.jumps.length≤900000)
  (c:Int) (hc:aqP (ws.headD ⟨#[]⟩).data.toList=c) (hc0:0≤c) (nm:List UInt8) (hnm:(aqc c).1=nm) (hf:(aqc c).2= [98]) (h18:(c==18)=false) (hlen:ws.length - 1=bqY [98]):
  Calls Tryz.prog 137 #[.pointer (some ⟨kb,0,none⟩), .slice A n cap] w (cqh [1,3,10,11] w ρ B kb (σ.instr m ws)):=by
 have hnl:=hw.len
 obtain⟨b,off,s0,rfl,hb,hub,hcc,c0,hfi⟩:=kqa hw hn hc
 have HFI:=Hq hfi
 have hle:=hw.le
 have hmx:=hw.max
 have HH:=Hq hK
 have hB:=hK.hB
 have hkl:=hK.box.lt
 have HCC:=Hq hcc
 have HUB:=Hq hub
 have HZ:=Hq hz
 have HI0:=Hq (show InK w ρ B kb m U σ w ρ V from⟨hK,hM,Chg.refl _ _ _⟩)
 have HFO:=Hq (fun W=>fqg hnm hf W)
 have hcr:=aqM (ws.headD ⟨#[]⟩).data.toList
 rw [hc] at hcr
 have hd0: ¬(c<0):=by omega
 obtain⟨AC,kC,hcv⟩:=aqf hM.code.1
 have hcw:IntKind.u8.wrap c=c:=by show c%256=c;omega
 replace hlen:ws.length - 1=1:=hlen
 have hnn:n=2:=by omega
 subst hnn
 have HGO:=bq1 (σ:=σ) (m:=m) hc hc0 hnm hf hlen
 obtain⟨s1,hdr,_⟩:=eqe hlen
 rw [hdr] at HGO
 have hs1:=bqc (i:=0) hdr rfl
 have zs1:=hz s1 (List.mem_of_getElem? hs1)
 have cs1:=hcc 1 s1 hs1
 clear hK hM hw hz hcc hc hfi hub hnm hf hnl hlen hdr hs1
 go_enter Tryz.func137,Tryz.ntmps137
 go_wp2_with (go_at_call 168;refine aqa ?_)
 refine aqb ?_
 refine(HFI.out _).mono ?_
 rintro e w1 ⟨rfl,hb1⟩
 have HI1:=Hq (HI0.out.below hb1)
 go_wp2_with (go_at_call 169;refine aqa ?_)
 refine aqb ?_
 refine(HFO.out _).mono ?_
 rintro e w2 ⟨rfl,hb2⟩
 have HI2:=Hq (HI1.out.below hb2)
 have d19:w2.cell? ⟨kb,19,none⟩=some (.slice AC m.mv.code.length kC):=by rw [←hcv];exact HI2.out.k.box.cell 19 rfl
 clear hb1 hb2 HI0 HI1 c0
 go_wp2_with fail
 refine wp_loop_rounds 2 ?_
 rw [rounds_succ]
 go_wp2_with fail
 rw [rounds_succ]
 go_wp2_with fail
 have hz2:=HI2.out.chg.size
 have HI3:=Hq (HI2.out.below ((Below.refl _ _).alloc (Nat.le_refl _) (.cells #[.int .u8 c] 5)))
 have HB3:=Hq (show RwB w (w2.alloc (.cells #[.int .u8 c] 5)) ρ w2.heap.size 1 [aqn c] from⟨by
  have h1:=cq7 w2 [.int .u8 c] 5 w.heap.size 1 hz2 rfl (by simp [maxLen])
  have h2:=aqF c
  rw [hcw] at h2
  rw [List.map_cons,List.map_nil, ←h2]
  exact h1,HI2.out.k.low.fresh (Nat.le_refl _)⟩)
 clear HI2 d19
 refine wp_loop_rounds 2 ?_
 rw [rounds_succ]
 have es1:=(HI3.out.chg.cell0 (by decide) hb HUB.out (off+1)).trans cs1
 go_wp2_with (go_at_call 136;refine aqa ?_)
 refine aqb ?_
 refine(bqB s1 (-128) 127 _ (by omega)).mono ?_
 intro e w4 hq
 rcases bqy hq with⟨hps1,v',rfl,hb4⟩ | ⟨vs1,hps1,rfl,hb4⟩
 ·have HP:=Hq (show σ.instr m ws=none from HGO.trans (by rw [aqL,gqF rfl,hps1];rfl))
  have HI4:=Hq (HI3.out.below hb4)
  clear hq hps1 hb4 HGO
  go_wp2_with fail
  go_ret
  exact aqh HP.out (HI4.out.chg.below HH.out.low hB (by decide))
 have HI4:=Hq (HI3.out.below hb4)
 have HB4:=Hq (HB3.out.chg (Chg.of_below (cs:= []) hb4) (by simp))
 clear hq hb4 es1
 have HA5:=Hq (HI4.out.below ((Below.refl _ _).alloc (Nat.le_refl _) (.cells #[.int .u8 (IntKind.u8.wrap vs1)] 5)))
 have HBA5:=Hq (HB4.out.chg (Chg.of_below (cs:= []) ((Below.refl _ _).alloc (Nat.le_refl _) (.cells #[.int .u8 (IntKind.u8.wrap vs1)] 5))) (by simp))
 go_wp2_with (at_builtin;refine aqa ?_)
 refine aqb ?_
 refine aq5 rfl _ _ 34 rfl Tryz.underlying34 aqu rfl (by omega) w.heap.size rfl HBA5.out.own rfl rfl (fun _=> ⟨_,rfl,aqd _ _ _ _ (by first|rfl|simp)⟩) (by simp [Value.oneCell']) (by simp) (by simp [maxLen,aqT]) (by simp [aqT]) (by have h1:=HBA5.out.lt;simp at h1⊢;omega) ?_
 intro g5 k5 W5 ho hg hbb hgg hlt
 have HI5:=Hq (HA5.out.app HBA5.out hg)
 have HB5:=Hq (RwB.more (more:= [aqn vs1]) HA5.out.k.low HBA5.out ho (by rw [List.map_cons,List.map_nil, ←aqF];rfl) hgg)
 clear ho hg hbb hgg hlt HA5 HBA5
 go_wp2_with fail
 rw [rounds_succ]
 have HP:=Hq (show σ.instr m ws=some { σ with m:=some { m with mv:={ m.mv with code:=m.mv.code++([aqn c]++ [aqn vs1]) } } } from HGO.trans (by rw [aqL,gqF rfl,hps1,Option.map_some,Option.bind_some,aqL];simp [mAt]))
 clear HGO
 have c19:=HI5.out.k.box.cell 19 (show _=some U.cv from rfl)
 rw [hcv] at c19
 go_wp2_with (at_builtin;refine aqa ?_)
 refine aqb ?_
 have HOC:=Hq (show World.ownsRow _ B 5 1 (.slice AC m.mv.code.length kC) m.mv.code.length (m.mv.code.map bV) from by rw [←hcv];exact HI5.out.mt.code.1)
 refine aq5 (v:= .slice AC m.mv.code.length kC) (n:=m.mv.code.length) (xs:=m.mv.code.map bV) (news:=(([aqn c]++ [aqn vs1]):List UInt8).map bV) rfl _ _ 34 rfl Tryz.underlying34 aqu rfl (by omega) B rfl HOC.out rfl (by simp [aqT]) (fun _=> ⟨_,rfl,HB5.out.cells⟩) (dqd _) (by first|omega| (simp [aqT];omega)) (by simp only [maxLen];first|omega| (simp [aqT];omega)) (by first|omega| (simp [aqT];omega)) (HI5.out.k.hB) ?_
 intro g9 k9 W9 ho hg hbb hgg hlt
 have HG9:=Hq hg
 have HO9:=Hq ho
 have HGG:=Hq hgg
 have e19:=((HG9.out.block kb HI5.out.k.box.lt (fun e=>absurd ((HI5.out.mt.code.2 _ (show U.cv.ownBlock=some kb by rw [hcv];exact e.symm)).symm.trans HI5.out.k.kc) (by decide))).trans HI5.out.k.box)
 have c9:=Bx.cell e19 19 rfl
 have z9:=Bx.frozen e19 19
 clear ho hg hbb hgg e19
 go_wp2_with fail
 go_ret
 obtain⟨ρ9,U9,hk9,hm9,hc9⟩:=HI5.out.fin (bytes:=([aqn c]++ [aqn vs1])) hso (show World.grownBy _ _ U.cv.ownBlock by rw [hcv];exact HG9.out) HO9.out rfl (show U.cv.ownBlock=some g9∨_ by rw [hcv];exact HGG.out)
 exact aqs (V':=V) HP.out hk9 ⟨_,rfl,hm9⟩ hc9
theorem nqI (ρ:Nat→Nat) (B kb:Nat) (σ:AsK) (V:RkV) (m:AsM) (U:RtV) (A:Option Addr) (n cap:Nat) (ws:List ByteArray) (w:World) (N:Nat) (hK:RkC w ρ B kb σ V (aq4 m U)) (hso:σ.m.isSome=true) (hM:RtC w ρ B m U) (hw:WdA w (Un ρ) A n cap ws) (hz:SmW ws) (hn:0<n) (hl:σ.c.pool.length≤900000) (hlc:m.mv.code.length≤900000) (hlj:m.jumps.length≤900000)
  (c:Int) (hc:aqP (ws.headD ⟨#[]⟩).data.toList=c) (hc0:0≤c) (nm:List UInt8) (hnm:(aqc c).1=nm) (hf:(aqc c).2= [117]) (h18:(c==18)=false) (hlen:ws.length - 1=bqY [117]):
  Calls Tryz.prog 137 #[.pointer (some ⟨kb,0,none⟩), .slice A n cap] w (cqh [1,3,10,11] w ρ B kb (σ.instr m ws)):=by
 have hnl:=hw.len
 obtain⟨b,off,s0,rfl,hb,hub,hcc,c0,hfi⟩:=kqa hw hn hc
 have HFI:=Hq hfi
 have hle:=hw.le
 have hmx:=hw.max
 have HH:=Hq hK
 have hB:=hK.hB
 have hkl:=hK.box.lt
 have HCC:=Hq hcc
 have HUB:=Hq hub
 have HZ:=Hq hz
 have HI0:=Hq (show InK w ρ B kb m U σ w ρ V from⟨hK,hM,Chg.refl _ _ _⟩)
 have HFO:=Hq (fun W=>fqg hnm hf W)
 have hcr:=aqM (ws.headD ⟨#[]⟩).data.toList
 rw [hc] at hcr
 have hd0: ¬(c<0):=by omega
 obtain⟨AC,kC,hcv⟩:=aqf hM.code.1
 have hcw:IntKind.u8.wrap c=c:=by show c%256=c;omega
 replace hlen:ws.length - 1=1:=hlen
 have hnn:n=2:=by omega
 subst hnn
 have HGO:=bq1 (σ:=σ) (m:=m) hc hc0 hnm hf hlen
 have HNL:=Hq (show nm≠ [108,100,99] from fun e=>by
  have h1:=eqZ (c:=c) (s:= [108,100,99]) (hnm.trans e) (by simp)
  have h2:aqP [108,100,99]=18:=by decide
  rw [h2] at h1
  subst h1
  simp at h18)
 obtain⟨s1,hdr,_⟩:=eqe hlen
 rw [hdr] at HGO
 have hs1:=bqc (i:=0) hdr rfl
 have zs1:=hz s1 (List.mem_of_getElem? hs1)
 have cs1:=hcc 1 s1 hs1
 clear hK hM hw hz hcc hc hfi hub hnm hf hnl hlen hdr hs1
 go_enter Tryz.func137,Tryz.ntmps137
 go_wp2_with (go_at_call 168;refine aqa ?_)
 refine aqb ?_
 refine(HFI.out _).mono ?_
 rintro e w1 ⟨rfl,hb1⟩
 have HI1:=Hq (HI0.out.below hb1)
 go_wp2_with (go_at_call 169;refine aqa ?_)
 refine aqb ?_
 refine(HFO.out _).mono ?_
 rintro e w2 ⟨rfl,hb2⟩
 have HI2:=Hq (HI1.out.below hb2)
 have d19:w2.cell? ⟨kb,19,none⟩=some (.slice AC m.mv.code.length kC):=by rw [←hcv];exact HI2.out.k.box.cell 19 rfl
 clear hb1 hb2 HI0 HI1 c0
 go_wp2_with fail
 refine wp_loop_rounds 2 ?_
 rw [rounds_succ]
 go_wp2_with fail
 rw [rounds_succ]
 go_wp2_with fail
 have hz2:=HI2.out.chg.size
 have HI3:=Hq (HI2.out.below ((Below.refl _ _).alloc (Nat.le_refl _) (.cells #[.int .u8 c] 5)))
 have HB3:=Hq (show RwB w (w2.alloc (.cells #[.int .u8 c] 5)) ρ w2.heap.size 1 [aqn c] from⟨by
  have h1:=cq7 w2 [.int .u8 c] 5 w.heap.size 1 hz2 rfl (by simp [maxLen])
  have h2:=aqF c
  rw [hcw] at h2
  rw [List.map_cons,List.map_nil, ←h2]
  exact h1,HI2.out.k.low.fresh (Nat.le_refl _)⟩)
 clear HI2 d19
 refine wp_loop_rounds 2 ?_
 rw [rounds_succ]
 have es1:=(HI3.out.chg.cell0 (by decide) hb HUB.out (off+1)).trans cs1
 go_wp2_with (go_at_call 136;refine aqa ?_)
 refine aqb ?_
 refine(bqB s1 (0) 255 _ (by omega)).mono ?_
 intro e w4 hq
 rcases bqy hq with⟨hps1,v',rfl,hb4⟩ | ⟨vs1,hps1,rfl,hb4⟩
 ·have HP:=Hq (show σ.instr m ws=none from HGO.trans (by rw [aqL,fq0 rfl HNL.out,hps1];rfl))
  have HI4:=Hq (HI3.out.below hb4)
  clear hq hps1 hb4 HGO
  go_wp2_with fail
  go_ret
  exact aqh HP.out (HI4.out.chg.below HH.out.low hB (by decide))
 have HI4:=Hq (HI3.out.below hb4)
 have HB4:=Hq (HB3.out.chg (Chg.of_below (cs:= []) hb4) (by simp))
 clear hq hb4 es1
 have HA5:=Hq (HI4.out.below ((Below.refl _ _).alloc (Nat.le_refl _) (.cells #[.int .u8 (IntKind.u8.wrap vs1)] 5)))
 have HBA5:=Hq (HB4.out.chg (Chg.of_below (cs:= []) ((Below.refl _ _).alloc (Nat.le_refl _) (.cells #[.int .u8 (IntKind.u8.wrap vs1)] 5))) (by simp))
 go_wp2_with (at_builtin;refine aqa ?_)
 refine aqb ?_
 refine aq5 rfl _ _ 34 rfl Tryz.underlying34 aqu rfl (by omega) w.heap.size rfl HBA5.out.own rfl rfl (fun _=> ⟨_,rfl,aqd _ _ _ _ (by first|rfl|simp)⟩) (by simp [Value.oneCell']) (by simp) (by simp [maxLen,aqT]) (by simp [aqT]) (by have h1:=HBA5.out.lt;simp at h1⊢;omega) ?_
 intro g5 k5 W5 ho hg hbb hgg hlt
 have HI5:=Hq (HA5.out.app HBA5.out hg)
 have HB5:=Hq (RwB.more (more:= [aqn vs1]) HA5.out.k.low HBA5.out ho (by rw [List.map_cons,List.map_nil, ←aqF];rfl) hgg)
 clear ho hg hbb hgg hlt HA5 HBA5
 go_wp2_with fail
 rw [rounds_succ]
 have HP:=Hq (show σ.instr m ws=some { σ with m:=some { m with mv:={ m.mv with code:=m.mv.code++([aqn c]++ [aqn vs1]) } } } from HGO.trans (by rw [aqL,fq0 rfl HNL.out,hps1,Option.map_some,Option.bind_some,aqL];simp [mAt]))
 clear HGO
 have c19:=HI5.out.k.box.cell 19 (show _=some U.cv from rfl)
 rw [hcv] at c19
 go_wp2_with (at_builtin;refine aqa ?_)
 refine aqb ?_
 have HOC:=Hq (show World.ownsRow _ B 5 1 (.slice AC m.mv.code.length kC) m.mv.code.length (m.mv.code.map bV) from by rw [←hcv];exact HI5.out.mt.code.1)
 refine aq5 (v:= .slice AC m.mv.code.length kC) (n:=m.mv.code.length) (xs:=m.mv.code.map bV) (news:=(([aqn c]++ [aqn vs1]):List UInt8).map bV) rfl _ _ 34 rfl Tryz.underlying34 aqu rfl (by omega) B rfl HOC.out rfl (by simp [aqT]) (fun _=> ⟨_,rfl,HB5.out.cells⟩) (dqd _) (by first|omega| (simp [aqT];omega)) (by simp only [maxLen];first|omega| (simp [aqT];omega)) (by first|omega| (simp [aqT];omega)) (HI5.out.k.hB) ?_
 intro g9 k9 W9 ho hg hbb hgg hlt
 have HG9:=Hq hg
 have HO9:=Hq ho
 have HGG:=Hq hgg
 have e19:=((HG9.out.block kb HI5.out.k.box.lt (fun e=>absurd ((HI5.out.mt.code.2 _ (show U.cv.ownBlock=some kb by rw [hcv];exact e.symm)).symm.trans HI5.out.k.kc) (by decide))).trans HI5.out.k.box)
 have c9:=Bx.cell e19 19 rfl
 have z9:=Bx.frozen e19 19
 clear ho hg hbb hgg e19
 go_wp2_with fail
 go_ret
 obtain⟨ρ9,U9,hk9,hm9,hc9⟩:=HI5.out.fin (bytes:=([aqn c]++ [aqn vs1])) hso (show World.grownBy _ _ U.cv.ownBlock by rw [hcv];exact HG9.out) HO9.out rfl (show U.cv.ownBlock=some g9∨_ by rw [hcv];exact HGG.out)
 exact aqs (V':=V) HP.out hk9 ⟨_,rfl,hm9⟩ hc9
theorem nqJ (ρ:Nat→Nat) (B kb:Nat) (σ:AsK) (V:RkV) (m:AsM) (U:RtV) (A:Option Addr) (n cap:Nat) (ws:List ByteArray) (w:World) (N:Nat) (hK:RkC w ρ B kb σ V (aq4 m U)) (hso:σ.m.isSome=true) (hM:RtC w ρ B m U) (hw:WdA w (Un ρ) A n cap ws) (hz:SmW ws) (hn:0<n) (hl:σ.c.pool.length≤900000) (hlc:m.mv.code.length≤900000) (hlj:m.jumps.length≤900000)
  (c:Int) (hc:aqP (ws.headD ⟨#[]⟩).data.toList=c) (hc0:0≤c) (nm:List UInt8) (hnm:(aqc c).1=nm) (hf:(aqc c).2= [117,98]) (h18:(c==18)=false) (hlen:ws.length - 1=bqY [117,98]):
  Calls Tryz.prog 137 #[.pointer (some ⟨kb,0,none⟩), .slice A n cap] w (cqh [1,3,10,11] w ρ B kb (σ.instr m ws)):=by
 have hnl:=hw.len
 obtain⟨b,off,s0,rfl,hb,hub,hcc,c0,hfi⟩:=kqa hw hn hc
 have HFI:=Hq hfi
 have hle:=hw.le
 have hmx:=hw.max
 have HH:=Hq hK
 have hB:=hK.hB
 have hkl:=hK.box.lt
 have HCC:=Hq hcc
 have HUB:=Hq hub
 have HZ:=Hq hz
 have HI0:=Hq (show InK w ρ B kb m U σ w ρ V from⟨hK,hM,Chg.refl _ _ _⟩)
 have HFO:=Hq (fun W=>fqg hnm hf W)
 have hcr:=aqM (ws.headD ⟨#[]⟩).data.toList
 rw [hc] at hcr
 have hd0: ¬(c<0):=by omega
 obtain⟨AC,kC,hcv⟩:=aqf hM.code.1
 have hcw:IntKind.u8.wrap c=c:=by show c%256=c;omega
 replace hlen:ws.length - 1=2:=hlen
 have hnn:n=3:=by omega
 subst hnn
 have HGO:=bq1 (σ:=σ) (m:=m) hc hc0 hnm hf hlen
 have HNL:=Hq (show nm≠ [108,100,99] from fun e=>by
  have h1:=eqZ (c:=c) (s:= [108,100,99]) (hnm.trans e) (by simp)
  have h2:aqP [108,100,99]=18:=by decide
  rw [h2] at h1
  subst h1
  simp at h18)
 obtain⟨s1,s2,hdr,_,_⟩:=nqy hlen
 rw [hdr] at HGO
 have hs1:=bqc (i:=0) hdr rfl
 have zs1:=hz s1 (List.mem_of_getElem? hs1)
 have cs1:=hcc 1 s1 hs1
 have hs2:=bqc (i:=1) hdr rfl
 have zs2:=hz s2 (List.mem_of_getElem? hs2)
 have cs2:=hcc 2 s2 hs2
 clear hK hM hw hz hcc hc hfi hub hnm hf hnl hlen hdr hs1 hs2
 go_enter Tryz.func137,Tryz.ntmps137
 go_wp2_with (go_at_call 168;refine aqa ?_)
 refine aqb ?_
 refine(HFI.out _).mono ?_
 rintro e w1 ⟨rfl,hb1⟩
 have HI1:=Hq (HI0.out.below hb1)
 go_wp2_with (go_at_call 169;refine aqa ?_)
 refine aqb ?_
 refine(HFO.out _).mono ?_
 rintro e w2 ⟨rfl,hb2⟩
 have HI2:=Hq (HI1.out.below hb2)
 have d19:w2.cell? ⟨kb,19,none⟩=some (.slice AC m.mv.code.length kC):=by rw [←hcv];exact HI2.out.k.box.cell 19 rfl
 clear hb1 hb2 HI0 HI1 c0
 go_wp2_with fail
 refine wp_loop_rounds 3 ?_
 rw [rounds_succ]
 go_wp2_with fail
 rw [rounds_succ]
 go_wp2_with fail
 rw [rounds_succ]
 go_wp2_with fail
 have hz2:=HI2.out.chg.size
 have HI3:=Hq (HI2.out.below ((Below.refl _ _).alloc (Nat.le_refl _) (.cells #[.int .u8 c] 5)))
 have HB3:=Hq (show RwB w (w2.alloc (.cells #[.int .u8 c] 5)) ρ w2.heap.size 1 [aqn c] from⟨by
  have h1:=cq7 w2 [.int .u8 c] 5 w.heap.size 1 hz2 rfl (by simp [maxLen])
  have h2:=aqF c
  rw [hcw] at h2
  rw [List.map_cons,List.map_nil, ←h2]
  exact h1,HI2.out.k.low.fresh (Nat.le_refl _)⟩)
 clear HI2 d19
 refine wp_loop_rounds 3 ?_
 rw [rounds_succ]
 have es1:=(HI3.out.chg.cell0 (by decide) hb HUB.out (off+1)).trans cs1
 go_wp2_with (go_at_call 136;refine aqa ?_)
 refine aqb ?_
 refine(bqB s1 (0) 255 _ (by omega)).mono ?_
 intro e w4 hq
 rcases bqy hq with⟨hps1,v',rfl,hb4⟩ | ⟨vs1,hps1,rfl,hb4⟩
 ·have HP:=Hq (show σ.instr m ws=none from HGO.trans (by rw [aqL,fq0 rfl HNL.out,hps1];rfl))
  have HI4:=Hq (HI3.out.below hb4)
  clear hq hps1 hb4 HGO
  go_wp2_with fail
  go_ret
  exact aqh HP.out (HI4.out.chg.below HH.out.low hB (by decide))
 have HI4:=Hq (HI3.out.below hb4)
 have HB4:=Hq (HB3.out.chg (Chg.of_below (cs:= []) hb4) (by simp))
 clear hq hb4 es1
 have HA5:=Hq (HI4.out.below ((Below.refl _ _).alloc (Nat.le_refl _) (.cells #[.int .u8 (IntKind.u8.wrap vs1)] 5)))
 have HBA5:=Hq (HB4.out.chg (Chg.of_below (cs:= []) ((Below.refl _ _).alloc (Nat.le_refl _) (.cells #[.int .u8 (IntKind.u8.wrap vs1)] 5))) (by simp))
 go_wp2_with (at_builtin;refine aqa ?_)
 refine aqb ?_
 refine aq5 rfl _ _ 34 rfl Tryz.underlying34 aqu rfl (by omega) w.heap.size rfl HBA5.out.own rfl rfl (fun _=> ⟨_,rfl,aqd _ _ _ _ (by first|rfl|simp)⟩) (by simp [Value.oneCell']) (by simp) (by simp [maxLen,aqT]) (by simp [aqT]) (by have h1:=HBA5.out.lt;simp at h1⊢;omega) ?_
 intro g5 k5 W5 ho hg hbb hgg hlt
 have HI5:=Hq (HA5.out.app HBA5.out hg)
 have HB5:=Hq (RwB.more (more:= [aqn vs1]) HA5.out.k.low HBA5.out ho (by rw [List.map_cons,List.map_nil, ←aqF];rfl) hgg)
 clear ho hg hbb hgg hlt HA5 HBA5
 go_wp2_with fail
 rw [rounds_succ]
 have es2:=(HI5.out.chg.cell0 (by decide) hb HUB.out (off+2)).trans cs2
 go_wp2_with (go_at_call 136;refine aqa ?_)
 refine aqb ?_
 refine(bqB s2 (-128) 127 _ (by omega)).mono ?_
 intro e w6 hq
 rcases bqy hq with⟨hps2,v',rfl,hb6⟩ | ⟨vs2,hps2,rfl,hb6⟩
 ·have HP:=Hq (show σ.instr m ws=none from HGO.trans (by rw [aqL,fq0 rfl HNL.out,hps1,Option.map_some,Option.bind_some,aqL,gqF rfl,hps2];rfl))
  have HI6:=Hq (HI5.out.below hb6)
  clear hq hps2 hb6 HGO
  go_wp2_with fail
  go_ret
  exact aqh HP.out (HI6.out.chg.below HH.out.low hB (by decide))
 have HI6:=Hq (HI5.out.below hb6)
 have HB6:=Hq (HB5.out.chg (Chg.of_below (cs:= []) hb6) (by simp))
 clear hq hb6 es2
 have HA7:=Hq (HI6.out.below ((Below.refl _ _).alloc (Nat.le_refl _) (.cells #[.int .u8 (IntKind.u8.wrap vs2)] 5)))
 have HBA7:=Hq (HB6.out.chg (Chg.of_below (cs:= []) ((Below.refl _ _).alloc (Nat.le_refl _) (.cells #[.int .u8 (IntKind.u8.wrap vs2)] 5))) (by simp))
 go_wp2_with (at_builtin;refine aqa ?_)
 refine aqb ?_
 refine aq5 rfl _ _ 34 rfl Tryz.underlying34 aqu rfl (by omega) w.heap.size rfl HBA7.out.own rfl rfl (fun _=> ⟨_,rfl,aqd _ _ _ _ (by first|rfl|simp)⟩) (by simp [Value.oneCell']) (by simp) (by simp [maxLen,aqT]) (by simp [aqT]) (by have h1:=HBA7.out.lt;simp at h1⊢;omega) ?_
 intro g7 k7 W7 ho hg hbb hgg hlt
 have HI7:=Hq (HA7.out.app HBA7.out hg)
 have HB7:=Hq (RwB.more (more:= [aqn vs2]) HA7.out.k.low HBA7.out ho (by rw [List.map_cons,List.map_nil, ←aqF];rfl) hgg)
 clear ho hg hbb hgg hlt HA7 HBA7
 go_wp2_with fail
 rw [rounds_succ]
 have HP:=Hq (show σ.instr m ws=some { σ with m:=some { m with mv:={ m.mv with code:=m.mv.code++(([aqn c]++ [aqn vs1])++ [aqn vs2]) } } } from HGO.trans (by rw [aqL,fq0 rfl HNL.out,hps1,Option.map_some,Option.bind_some,aqL,gqF rfl,hps2,Option.map_some,Option.bind_some,aqL];simp [mAt]))
 clear HGO
 have c19:=HI7.out.k.box.cell 19 (show _=some U.cv from rfl)
 rw [hcv] at c19
 go_wp2_with (at_builtin;refine aqa ?_)
 refine aqb ?_
 have HOC:=Hq (show World.ownsRow _ B 5 1 (.slice AC m.mv.code.length kC) m.mv.code.length (m.mv.code.map bV) from by rw [←hcv];exact HI7.out.mt.code.1)
 refine aq5 (v:= .slice AC m.mv.code.length kC) (n:=m.mv.code.length) (xs:=m.mv.code.map bV) (news:=((([aqn c]++ [aqn vs1])++ [aqn vs2]):List UInt8).map bV) rfl _ _ 34 rfl Tryz.underlying34 aqu rfl (by omega) B rfl HOC.out rfl (by simp [aqT]) (fun _=> ⟨_,rfl,HB7.out.cells⟩) (dqd _) (by first|omega| (simp [aqT];omega)) (by simp only [maxLen];first|omega| (simp [aqT];omega)) (by first|omega| (simp [aqT];omega)) (HI7.out.k.hB) ?_
 intro g9 k9 W9 ho hg hbb hgg hlt
 have HG9:=Hq hg
 have HO9:=Hq ho
 have HGG:=Hq hgg
 have e19:=((HG9.out.block kb HI7.out.k.box.lt (fun e=>absurd ((HI7.out.mt.code.2 _ (show U.cv.ownBlock=some kb by rw [hcv];exact e.symm)).symm.trans HI7.out.k.kc) (by decide))).trans HI7.out.k.box)
 have c9:=Bx.cell e19 19 rfl
 have z9:=Bx.frozen e19 19
 clear ho hg hbb hgg e19
 go_wp2_with fail
 go_ret
 obtain⟨ρ9,U9,hk9,hm9,hc9⟩:=HI7.out.fin (bytes:=(([aqn c]++ [aqn vs1])++ [aqn vs2])) hso (show World.grownBy _ _ U.cv.ownBlock by rw [hcv];exact HG9.out) HO9.out rfl (show U.cv.ownBlock=some g9∨_ by rw [hcv];exact HGG.out)
 exact aqs (V':=V) HP.out hk9 ⟨_,rfl,hm9⟩ hc9
theorem nqK (ρ:Nat→Nat) (B kb:Nat) (σ:AsK) (V:RkV) (m:AsM) (U:RtV) (A:Option Addr) (n cap:Nat) (ws:List ByteArray) (w:World) (N:Nat) (hK:RkC w ρ B kb σ V (aq4 m U)) (hso:σ.m.isSome=true) (hM:RtC w ρ B m U) (hw:WdA w (Un ρ) A n cap ws) (hz:SmW ws) (hn:0<n) (hl:σ.c.pool.length≤900000) (hlc:m.mv.code.length≤900000) (hlj:m.jumps.length≤900000)
  (c:Int) (hc:aqP (ws.headD ⟨#[]⟩).data.toList=c) (hc0:0≤c) (nm:List UInt8) (hnm:(aqc c).1=nm) (hf:(aqc c).2= [115]) (h18:(c==18)=false) (hlen:ws.length - 1=bqY [115]):
  Calls Tryz.prog 137 #[.pointer (some ⟨kb,0,none⟩), .slice A n cap] w (cqh [1,3,10,11] w ρ B kb (σ.instr m ws)):=by
 have hnl:=hw.len
 obtain⟨b,off,s0,rfl,hb,hub,hcc,c0,hfi⟩:=kqa hw hn hc
 have HFI:=Hq hfi
 have hle:=hw.le
 have hmx:=hw.max
 have HH:=Hq hK
 have hB:=hK.hB
 have hkl:=hK.box.lt
 have HCC:=Hq hcc
 have HUB:=Hq hub
 have HZ:=Hq hz
 have HI0:=Hq (show InK w ρ B kb m U σ w ρ V from⟨hK,hM,Chg.refl _ _ _⟩)
 have HFO:=Hq (fun W=>fqg hnm hf W)
 have hcr:=aqM (ws.headD ⟨#[]⟩).data.toList
 rw [hc] at hcr
 have hd0: ¬(c<0):=by omega
 obtain⟨AC,kC,hcv⟩:=aqf hM.code.1
 have hcw:IntKind.u8.wrap c=c:=by show c%256=c;omega
 replace hlen:ws.length - 1=1:=hlen
 have hnn:n=2:=by omega
 subst hnn
 have HGO:=bq1 (σ:=σ) (m:=m) hc hc0 hnm hf hlen
 obtain⟨s1,hdr,_⟩:=eqe hlen
 rw [hdr] at HGO
 have hs1:=bqc (i:=0) hdr rfl
 have zs1:=hz s1 (List.mem_of_getElem? hs1)
 have cs1:=hcc 1 s1 hs1
 clear hK hM hw hz hcc hc hfi hub hnm hf hnl hlen hdr hs1
 go_enter Tryz.func137,Tryz.ntmps137
 go_wp2_with (go_at_call 168;refine aqa ?_)
 refine aqb ?_
 refine(HFI.out _).mono ?_
 rintro e w1 ⟨rfl,hb1⟩
 have HI1:=Hq (HI0.out.below hb1)
 go_wp2_with (go_at_call 169;refine aqa ?_)
 refine aqb ?_
 refine(HFO.out _).mono ?_
 rintro e w2 ⟨rfl,hb2⟩
 have HI2:=Hq (HI1.out.below hb2)
 have d19:w2.cell? ⟨kb,19,none⟩=some (.slice AC m.mv.code.length kC):=by rw [←hcv];exact HI2.out.k.box.cell 19 rfl
 clear hb1 hb2 HI0 HI1 c0
 go_wp2_with fail
 refine wp_loop_rounds 2 ?_
 rw [rounds_succ]
 go_wp2_with fail
 rw [rounds_succ]
 go_wp2_with fail
 have hz2:=HI2.out.chg.size
 have HI3:=Hq (HI2.out.below ((Below.refl _ _).alloc (Nat.le_refl _) (.cells #[.int .u8 c] 5)))
 have HB3:=Hq (show RwB w (w2.alloc (.cells #[.int .u8 c] 5)) ρ w2.heap.size 1 [aqn c] from⟨by
  have h1:=cq7 w2 [.int .u8 c] 5 w.heap.size 1 hz2 rfl (by simp [maxLen])
  have h2:=aqF c
  rw [hcw] at h2
  rw [List.map_cons,List.map_nil, ←h2]
  exact h1,HI2.out.k.low.fresh (Nat.le_refl _)⟩)
 clear HI2 d19
 refine wp_loop_rounds 2 ?_
 rw [rounds_succ]
 have es1:=(HI3.out.chg.cell0 (by decide) hb HUB.out (off+1)).trans cs1
 go_wp2_with (go_at_call 136;refine aqa ?_)
 refine aqb ?_
 refine(bqB s1 (-32768) 32767 _ (by omega)).mono ?_
 intro e w4 hq
 rcases bqy hq with⟨hps1,v',rfl,hb4⟩ | ⟨vs1,hps1,rfl,hb4⟩
 ·have HP:=Hq (show σ.instr m ws=none from HGO.trans (by rw [aqL,iq6 rfl,hps1];rfl))
  have HI4:=Hq (HI3.out.below hb4)
  clear hq hps1 hb4 HGO
  go_wp2_with fail
  go_ret
  exact aqh HP.out (HI4.out.chg.below HH.out.low hB (by decide))
 have HI4:=Hq (HI3.out.below hb4)
 have HB4:=Hq (HB3.out.chg (Chg.of_below (cs:= []) hb4) (by simp))
 clear hq hb4 es1
 go_wp2_with (go_at_call 68;refine aqa ?_)
 refine aqb ?_
 refine(dqt vs1 _).mono ?_
 rintro e w5 ⟨r,rfl,hor,hb5⟩
 obtain⟨gq,kq,rfl⟩: ∃gq kq,r= .slice (some ⟨gq,0,none⟩) 2 kq:=by
  rcases Go.Joins.ownsRow_forms hor with⟨_,h0⟩ | ⟨g,k,e⟩
  ·omega
  exact⟨g,k,e⟩
 have hqc: ∀j u, [Value.int .u8 (vs1/256%256),Value.int .u8 (vs1%256)][j]?=some u→w5.cell? ((⟨gq,0,none⟩:Addr).add j)=some u:=fun j u hu=>by
  have hj:j<2:=(List.getElem?_eq_some_iff.1 hu).1
  rw [dqv,Nat.zero_add,hor.cellAt j (by omega),hu]
 have HA6:=Hq (HI4.out.below hb5)
 have HBA6:=Hq (HB4.out.chg (Chg.of_below (cs:= []) hb5) (by simp))
 have HQ6:=Hq hqc
 clear hor hb5 hqc
 go_wp2_with (at_builtin;refine aqa ?_)
 refine aqb ?_
 refine aq5 rfl _ _ 34 rfl Tryz.underlying34 aqu rfl (by omega) w.heap.size rfl HBA6.out.own rfl rfl (fun _=> ⟨_,rfl,HQ6.out⟩) (by simp [Value.oneCell']) (by simp) (by simp [maxLen,aqT]) (by simp [aqT]) (by have h1:=HBA6.out.lt;omega) ?_
 intro g6 k6 W6 ho hg hbb hgg hlt
 have HI6:=Hq (HA6.out.app HBA6.out hg)
 have HB6:=Hq (RwB.more (more:=aqT vs1) HA6.out.k.low HBA6.out ho (by exact jq8 _) hgg)
 clear ho hg hbb hgg hlt HA6 HBA6
 go_wp2_with fail
 rw [rounds_succ]
 have HP:=Hq (show σ.instr m ws=some { σ with m:=some { m with mv:={ m.mv with code:=m.mv.code++([aqn c]++aqT vs1) } } } from HGO.trans (by rw [aqL,iq6 rfl,hps1,Option.map_some,Option.bind_some,aqL];simp [mAt]))
 clear HGO
 have c19:=HI6.out.k.box.cell 19 (show _=some U.cv from rfl)
 rw [hcv] at c19
 go_wp2_with (at_builtin;refine aqa ?_)
 refine aqb ?_
 have HOC:=Hq (show World.ownsRow _ B 5 1 (.slice AC m.mv.code.length kC) m.mv.code.length (m.mv.code.map bV) from by rw [←hcv];exact HI6.out.mt.code.1)
 refine aq5 (v:= .slice AC m.mv.code.length kC) (n:=m.mv.code.length) (xs:=m.mv.code.map bV) (news:=(([aqn c]++aqT vs1):List UInt8).map bV) rfl _ _ 34 rfl Tryz.underlying34 aqu rfl (by omega) B rfl HOC.out rfl (by simp [aqT]) (fun _=> ⟨_,rfl,HB6.out.cells⟩) (dqd _) (by first|omega| (simp [aqT];omega)) (by simp only [maxLen];first|omega| (simp [aqT];omega)) (by first|omega| (simp [aqT];omega)) (HI6.out.k.hB) ?_
 intro g9 k9 W9 ho hg hbb hgg hlt
 have HG9:=Hq hg
 have HO9:=Hq ho
 have HGG:=Hq hgg
 have e19:=((HG9.out.block kb HI6.out.k.box.lt (fun e=>absurd ((HI6.out.mt.code.2 _ (show U.cv.ownBlock=some kb by rw [hcv];exact e.symm)).symm.trans HI6.out.k.kc) (by decide))).trans HI6.out.k.box)
 have c9:=Bx.cell e19 19 rfl
 have z9:=Bx.frozen e19 19
 clear ho hg hbb hgg e19
 go_wp2_with fail
 go_ret
 obtain⟨ρ9,U9,hk9,hm9,hc9⟩:=HI6.out.fin (bytes:=([aqn c]++aqT vs1)) hso (show World.grownBy _ _ U.cv.ownBlock by rw [hcv];exact HG9.out) HO9.out rfl (show U.cv.ownBlock=some g9∨_ by rw [hcv];exact HGG.out)
 exact aqs (V':=V) HP.out hk9 ⟨_,rfl,hm9⟩ hc9
theorem nqL (ρ:Nat→Nat) (B kb:Nat) (σ:AsK) (V:RkV) (m:AsM) (U:RtV) (A:Option Addr) (n cap:Nat) (ws:List ByteArray) (w:World) (N:Nat) (hK:RkC w ρ B kb σ V (aq4 m U)) (hso:σ.m.isSome=true) (hM:RtC w ρ B m U) (hw:WdA w (Un ρ) A n cap ws) (hz:SmW ws) (hn:0<n) (hl:σ.c.pool.length≤900000) (hlc:m.mv.code.length≤900000) (hlj:m.jumps.length≤900000)
  (c:Int) (hc:aqP (ws.headD ⟨#[]⟩).data.toList=c) (hc0:0≤c) (nm:List UInt8) (hnm:(aqc c).1=nm) (hf:(aqc c).2= [99]) (h18:(c==18)=false) (hlen:ws.length - 1=bqY [99]):
  Calls Tryz.prog 137 #[.pointer (some ⟨kb,0,none⟩), .slice A n cap] w (cqh [1,3,10,11] w ρ B kb (σ.instr m ws)):=by
 have hnl:=hw.len
 obtain⟨b,off,s0,rfl,hb,hub,hcc,c0,hfi⟩:=kqa hw hn hc
 have HFI:=Hq hfi
 have hle:=hw.le
 have hmx:=hw.max
 have HH:=Hq hK
 have hB:=hK.hB
 have hkl:=hK.box.lt
 have HCC:=Hq hcc
 have HUB:=Hq hub
 have HZ:=Hq hz
 have HI0:=Hq (show InK w ρ B kb m U σ w ρ V from⟨hK,hM,Chg.refl _ _ _⟩)
 have HFO:=Hq (fun W=>fqg hnm hf W)
 have hcr:=aqM (ws.headD ⟨#[]⟩).data.toList
 rw [hc] at hcr
 have hd0: ¬(c<0):=by omega
 obtain⟨AC,kC,hcv⟩:=aqf hM.code.1
 have hcw:IntKind.u8.wrap c=c:=by show c%256=c;omega
 replace hlen:ws.length - 1=1:=hlen
 have hnn:n=2:=by omega
 subst hnn
 have HGO:=bq1 (σ:=σ) (m:=m) hc hc0 hnm hf hlen
 obtain⟨s1,hdr,_⟩:=eqe hlen
 rw [hdr] at HGO
 have hs1:=bqc (i:=0) hdr rfl
 have zs1:=hz s1 (List.mem_of_getElem? hs1)
 have cs1:=hcc 1 s1 hs1
 clear hK hM hw hz hcc hc hfi hub hnm hf hnl hlen hdr hs1
 go_enter Tryz.func137,Tryz.ntmps137
 go_wp2_with (go_at_call 168;refine aqa ?_)
 refine aqb ?_
 refine(HFI.out _).mono ?_
 rintro e w1 ⟨rfl,hb1⟩
 have HI1:=Hq (HI0.out.below hb1)
 go_wp2_with (go_at_call 169;refine aqa ?_)
 refine aqb ?_
 refine(HFO.out _).mono ?_
 rintro e w2 ⟨rfl,hb2⟩
 have HI2:=Hq (HI1.out.below hb2)
 have d19:w2.cell? ⟨kb,19,none⟩=some (.slice AC m.mv.code.length kC):=by rw [←hcv];exact HI2.out.k.box.cell 19 rfl
 clear hb1 hb2 HI0 HI1 c0
 go_wp2_with fail
 refine wp_loop_rounds 2 ?_
 rw [rounds_succ]
 go_wp2_with fail
 rw [rounds_succ]
 go_wp2_with fail
 have hz2:=HI2.out.chg.size
 have HI3:=Hq (HI2.out.below ((Below.refl _ _).alloc (Nat.le_refl _) (.cells #[.int .u8 c] 5)))
 have HB3:=Hq (show RwB w (w2.alloc (.cells #[.int .u8 c] 5)) ρ w2.heap.size 1 [aqn c] from⟨by
  have h1:=cq7 w2 [.int .u8 c] 5 w.heap.size 1 hz2 rfl (by simp [maxLen])
  have h2:=aqF c
  rw [hcw] at h2
  rw [List.map_cons,List.map_nil, ←h2]
  exact h1,HI2.out.k.low.fresh (Nat.le_refl _)⟩)
 clear HI2 d19
 refine wp_loop_rounds 2 ?_
 rw [rounds_succ]
 have es1:=(HI3.out.chg.cell0 (by decide) hb HUB.out (off+1)).trans cs1
 go_wp2_with (go_at_call 64;refine aqa ?_)
 refine aqb ?_
 refine(cq4 _ B kb σ V (aq4 m U) s1 _ HI3.out.k zs1 (by omega)).mono ?_
 rintro e w4 ⟨rfl,ρ4,pv4,hm,hg⟩
 have HI4:=Hq (HI3.out.step hm hg)
 have HB4:=Hq (HB3.out.chg hg (by simp))
 clear hm hg es1
 go_wp2_with (go_at_call 68;refine aqa ?_)
 refine aqb ?_
 refine(dqt ((σ.cls s1).1:Int) _).mono ?_
 rintro e w5 ⟨r,rfl,hor,hb5⟩
 obtain⟨gq,kq,rfl⟩: ∃gq kq,r= .slice (some ⟨gq,0,none⟩) 2 kq:=by
  rcases Go.Joins.ownsRow_forms hor with⟨_,h0⟩ | ⟨g,k,e⟩
  ·omega
  exact⟨g,k,e⟩
 have hqc: ∀j u, [Value.int .u8 (((σ.cls s1).1:Int)/256%256),Value.int .u8 (((σ.cls s1).1:Int)%256)][j]?=some u→w5.cell? ((⟨gq,0,none⟩:Addr).add j)=some u:=fun j u hu=>by
  have hj:j<2:=(List.getElem?_eq_some_iff.1 hu).1
  rw [dqv,Nat.zero_add,hor.cellAt j (by omega),hu]
 have HA6:=Hq (HI4.out.below hb5)
 have HBA6:=Hq (HB4.out.chg (Chg.of_below (cs:= []) hb5) (by simp))
 have HQ6:=Hq hqc
 clear hor hb5 hqc
 go_wp2_with (at_builtin;refine aqa ?_)
 refine aqb ?_
 refine aq5 rfl _ _ 34 rfl Tryz.underlying34 aqu rfl (by omega) w.heap.size rfl HBA6.out.own rfl rfl (fun _=> ⟨_,rfl,HQ6.out⟩) (by simp [Value.oneCell']) (by simp) (by simp [maxLen,aqT]) (by simp [aqT]) (by have h1:=HBA6.out.lt;omega) ?_
 intro g6 k6 W6 ho hg hbb hgg hlt
 have HI6:=Hq (HA6.out.app HBA6.out hg)
 have HB6:=Hq (RwB.more (more:=aqT (σ.cls s1).1) HA6.out.k.low HBA6.out ho (by exact jq8 _) hgg)
 clear ho hg hbb hgg hlt HA6 HBA6
 go_wp2_with fail
 rw [rounds_succ]
 have HP:=Hq (show σ.instr m ws=some { (σ.cls s1).2 with m:=some { m with mv:={ m.mv with code:=m.mv.code++([aqn c]++aqT (σ.cls s1).1) } } } from HGO.trans (by rw [aqL,nq2 rfl,Option.bind_some,aqL];simp [mAt]))
 clear HGO
 have hso2:(σ.cls s1).2.m.isSome=true:=hso
 have c19:=HI6.out.k.box.cell 19 (show _=some U.cv from rfl)
 rw [hcv] at c19
 go_wp2_with (at_builtin;refine aqa ?_)
 refine aqb ?_
 have HOC:=Hq (show World.ownsRow _ B 5 1 (.slice AC m.mv.code.length kC) m.mv.code.length (m.mv.code.map bV) from by rw [←hcv];exact HI6.out.mt.code.1)
 refine aq5 (v:= .slice AC m.mv.code.length kC) (n:=m.mv.code.length) (xs:=m.mv.code.map bV) (news:=(([aqn c]++aqT (σ.cls s1).1):List UInt8).map bV) rfl _ _ 34 rfl Tryz.underlying34 aqu rfl (by omega) B rfl HOC.out rfl (by simp [aqT]) (fun _=> ⟨_,rfl,HB6.out.cells⟩) (dqd _) (by first|omega| (simp [aqT];omega)) (by simp only [maxLen];first|omega| (simp [aqT];omega)) (by first|omega| (simp [aqT];omega)) (HI6.out.k.hB) ?_
 intro g9 k9 W9 ho hg hbb hgg hlt
 have HG9:=Hq hg
 have HO9:=Hq ho
 have HGG:=Hq hgg
 have e19:=((HG9.out.block kb HI6.out.k.box.lt (fun e=>absurd ((HI6.out.mt.code.2 _ (show U.cv.ownBlock=some kb by rw [hcv];exact e.symm)).symm.trans HI6.out.k.kc) (by decide))).trans HI6.out.k.box)
 have c9:=Bx.cell e19 19 rfl
 have z9:=Bx.frozen e19 19
 clear ho hg hbb hgg e19
 go_wp2_with fail
 go_ret
 obtain⟨ρ9,U9,hk9,hm9,hc9⟩:=HI6.out.fin (bytes:=([aqn c]++aqT (σ.cls s1).1)) hso2 (show World.grownBy _ _ U.cv.ownBlock by rw [hcv];exact HG9.out) HO9.out rfl (show U.cv.ownBlock=some g9∨_ by rw [hcv];exact HGG.out)
 exact aqs (V':={ V with pv:=pv4 }) HP.out hk9 ⟨_,rfl,hm9⟩ hc9
theorem nqM (ρ:Nat→Nat) (B kb:Nat) (σ:AsK) (V:RkV) (m:AsM) (U:RtV) (A:Option Addr) (n cap:Nat) (ws:List ByteArray) (w:World) (N:Nat) (hK:RkC w ρ B kb σ V (aq4 m U)) (hso:σ.m.isSome=true) (hM:RtC w ρ B m U) (hw:WdA w (Un ρ) A n cap ws) (hz:SmW ws) (hn:0<n) (hl:σ.c.pool.length≤900000) (hlc:m.mv.code.length≤900000) (hlj:m.jumps.length≤900000)
  (c:Int) (hc:aqP (ws.headD ⟨#[]⟩).data.toList=c) (hc0:0≤c) (nm:List UInt8) (hnm:(aqc c).1=nm) (hf:(aqc c).2= [109]) (h18:(c==18)=false) (hlen:ws.length - 1=bqY [109]):
  Calls Tryz.prog 137 #[.pointer (some ⟨kb,0,none⟩), .slice A n cap] w (cqh [1,3,10,11] w ρ B kb (σ.instr m ws)):=by
 have hnl:=hw.len
 obtain⟨b,off,s0,rfl,hb,hub,hcc,c0,hfi⟩:=kqa hw hn hc
 have HFI:=Hq hfi
 have hle:=hw.le
 have hmx:=hw.max
 have HH:=Hq hK
 have hB:=hK.hB
 have hkl:=hK.box.lt
 have HCC:=Hq hcc
 have HUB:=Hq hub
 have HZ:=Hq hz
 have HI0:=Hq (show InK w ρ B kb m U σ w ρ V from⟨hK,hM,Chg.refl _ _ _⟩)
 have HFO:=Hq (fun W=>fqg hnm hf W)
 have hcr:=aqM (ws.headD ⟨#[]⟩).data.toList
 rw [hc] at hcr
 have hd0: ¬(c<0):=by omega
 obtain⟨AC,kC,hcv⟩:=aqf hM.code.1
 have hcw:IntKind.u8.wrap c=c:=by show c%256=c;omega
 replace hlen:ws.length - 1=3:=hlen
 have hnn:n=4:=by omega
 subst hnn
 have HGO:=bq1 (σ:=σ) (m:=m) hc hc0 hnm hf hlen
 obtain⟨s1,s2,s3,hdr,_,_,_⟩:=eq1 hlen
 rw [hdr] at HGO
 have hs1:=bqc (i:=0) hdr rfl
 have zs1:=hz s1 (List.mem_of_getElem? hs1)
 have cs1:=hcc 1 s1 hs1
 have hs2:=bqc (i:=1) hdr rfl
 have zs2:=hz s2 (List.mem_of_getElem? hs2)
 have cs2:=hcc 2 s2 hs2
 have hs3:=bqc (i:=2) hdr rfl
 have zs3:=hz s3 (List.mem_of_getElem? hs3)
 have cs3:=hcc 3 s3 hs3
 clear hK hM hw hz hcc hc hfi hub hnm hf hnl hlen hdr hs1 hs2 hs3
 go_enter Tryz.func137,Tryz.ntmps137
 go_wp2_with (go_at_call 168;refine aqa ?_)
 refine aqb ?_
 refine(HFI.out _).mono ?_
 rintro e w1 ⟨rfl,hb1⟩
 have HI1:=Hq (HI0.out.below hb1)
 go_wp2_with (go_at_call 169;refine aqa ?_)
 refine aqb ?_
 refine(HFO.out _).mono ?_
 rintro e w2 ⟨rfl,hb2⟩
 have HI2:=Hq (HI1.out.below hb2)
 have d19:w2.cell? ⟨kb,19,none⟩=some (.slice AC m.mv.code.length kC):=by rw [←hcv];exact HI2.out.k.box.cell 19 rfl
 clear hb1 hb2 HI0 HI1 c0
 go_wp2_with fail
 refine wp_loop_rounds 2 ?_
 rw [rounds_succ]
 go_wp2_with fail
 rw [rounds_succ]
 go_wp2_with fail
 have hz2:=HI2.out.chg.size
 have HI3:=Hq (HI2.out.below ((Below.refl _ _).alloc (Nat.le_refl _) (.cells #[.int .u8 c] 5)))
 have HB3:=Hq (show RwB w (w2.alloc (.cells #[.int .u8 c] 5)) ρ w2.heap.size 1 [aqn c] from⟨by
  have h1:=cq7 w2 [.int .u8 c] 5 w.heap.size 1 hz2 rfl (by simp [maxLen])
  have h2:=aqF c
  rw [hcw] at h2
  rw [List.map_cons,List.map_nil, ←h2]
  exact h1,HI2.out.k.low.fresh (Nat.le_refl _)⟩)
 clear HI2 d19
 refine wp_loop_rounds 2 ?_
 rw [rounds_succ]
 have es1:=(HI3.out.chg.cell0 (by decide) hb HUB.out (off+1)).trans cs1
 have es2:=(HI3.out.chg.cell0 (by decide) hb HUB.out (off+2)).trans cs2
 have es3:=(HI3.out.chg.cell0 (by decide) hb HUB.out (off+3)).trans cs3
 have hlm:=Hq hl
 obtain⟨rr,hrr⟩: ∃r,r=σ.member 10 s1 s2 s3:=⟨_,rfl⟩
 have HRR:=Hq hrr
 have HD3:=Hq (HI3.out.below (below_drewN (Below.refl _ _) 1))
 have HBD3:=Hq (HB3.out.chg (Chg.of_below (cs:= []) (below_drewN (Below.refl _ _) 1)) (by simp))
 have HMB:=Hq (eqs _ B kb σ V (aq4 m U) 10 s1 s2 s3 _ HD3.out.k (by unfold cqF;omega) zs1 zs2 zs3 (by omega))
 rw [←hrr] at HMB
 clear hrr
 go_wp2_with fail
 go_region_law (first
  | (go_simp;go_at_call 170
     refine HMB.out.mono ?_
     rintro e w4 ⟨rfl,ρ4,pv4,hm,hg⟩
     have HI4:=Hq (HD3.out.step hm hg)
     have HB4:=Hq (HBD3.out.chg hg (by simp))
     clear hm hg)
  | (go_simp;go_at_call 68
     refine(dqt (rr.1:Int) _).mono ?_
     rintro e w5 ⟨r,rfl,hor,hb5⟩
     have HOR:=Hq hor
     have HI5:=Hq (HI4.out.below hb5)
     have HB5:=Hq (HB4.out.chg (Chg.of_below (cs:= []) hb5) (by simp))
     obtain⟨gq,kq,rfl⟩: ∃gq kq,r= .slice (some ⟨gq,0,none⟩) 2 kq:=by
       rcases Go.Joins.ownsRow_forms hor with⟨_,h0⟩ | ⟨g,k,e⟩
       ·omega
       exact⟨g,k,e⟩
     clear hor hb5)
  | (refine aqt rfl (.tmp 125) (.tmp 138) 34 rfl Tryz.underlying34 aqu rfl (by omega) w.heap.size rfl (aqp HB5.out.own (fun _ _=>rfl)) rfl (news:=(aqT rr.1).map bV) (by simp [aqT]) (fun j u hu=>by
       have hj:j<2:=by have:=(List.getElem?_eq_some_iff.1 hu).1;simpa [aqT] using this
       rw [←jq8] at hu
       rw [dqv,Nat.zero_add]
       refine Eq.trans ?_ hu
       exact HOR.out.cellAt j (by omega)) (dqd _) (by simp) (by simp [maxLen]) (by simp) (by have h1:=HB5.out.lt;first|omega| (simp at h1⊢;omega)) ?_
     intro g6 k6 w6 ho hg hbb hgg
     have HO6:=Hq ho
     have HG6:=Hq hg
     have HGG:=Hq hgg
     clear ho hg hbb hgg))
 all_goals
  have HI6:=Hq (HI5.out.app HB5.out HG6.out)
  have HB6:=Hq (RwB.more (more:=aqT rr.1) HI5.out.k.low HB5.out HO6.out rfl HGG.out)
  clear HG6 HO6 HGG HOR
  go_wp2_with fail
  rw [rounds_succ]
  have HP:=Hq (show σ.instr m ws=some { rr.2 with m:=some { m with mv:={ m.mv with code:=m.mv.code++([aqn c]++aqT rr.1) } } } from HGO.trans (by rw [HRR.out,aqL,nq4 rfl,Option.bind_some,aqL];simp [mAt]))
  clear HGO
  have hso2:rr.2.m.isSome=true:=by rw [HRR.out];exact hso
  have c19:=HI6.out.k.box.cell 19 (show _=some U.cv from rfl)
  rw [hcv] at c19
  go_wp2_with (at_builtin;refine aqa ?_)
  refine aqb ?_
  have HOC:=Hq (show World.ownsRow _ B 5 1 (.slice AC m.mv.code.length kC) m.mv.code.length (m.mv.code.map bV) from by rw [←hcv];exact HI6.out.mt.code.1)
  refine aq5 (v:= .slice AC m.mv.code.length kC) (n:=m.mv.code.length) (xs:=m.mv.code.map bV) (news:=(([aqn c]++aqT rr.1):List UInt8).map bV) rfl _ _ 34 rfl Tryz.underlying34 aqu rfl (by omega) B rfl HOC.out rfl (by simp [aqT]) (fun _=> ⟨_,rfl,HB6.out.cells⟩) (dqd _) (by first|omega| (simp [aqT];omega)) (by simp only [maxLen];first|omega| (simp [aqT];omega)) (by first|omega| (simp [aqT];omega)) (HI6.out.k.hB) ?_
  intro g9 k9 W9 ho hg hbb hgg hlt
  have HG9:=Hq hg
  have HO9:=Hq ho
  have HGG:=Hq hgg
  have e19:=((HG9.out.block kb HI6.out.k.box.lt (fun e=>absurd ((HI6.out.mt.code.2 _ (show U.cv.ownBlock=some kb by rw [hcv];exact e.symm)).symm.trans HI6.out.k.kc) (by decide))).trans HI6.out.k.box)
  have c9:=Bx.cell e19 19 rfl
  have z9:=Bx.frozen e19 19
  clear ho hg hbb hgg e19
  go_wp2_with fail
  go_ret
  obtain⟨ρ9,U9,hk9,hm9,hc9⟩:=HI6.out.fin (bytes:=([aqn c]++aqT rr.1)) hso2 (show World.grownBy _ _ U.cv.ownBlock by rw [hcv];exact HG9.out) HO9.out rfl (show U.cv.ownBlock=some g9∨_ by rw [hcv];exact HGG.out)
  exact aqs (V':={ V with pv:=pv4 }) HP.out hk9 ⟨_,rfl,hm9⟩ hc9
theorem nqN (ρ:Nat→Nat) (B kb:Nat) (σ:AsK) (V:RkV) (m:AsM) (U:RtV) (A:Option Addr) (n cap:Nat) (ws:List ByteArray) (w:World) (N:Nat) (hK:RkC w ρ B kb σ V (aq4 m U)) (hso:σ.m.isSome=true) (hM:RtC w ρ B m U) (hw:WdA w (Un ρ) A n cap ws) (hz:SmW ws) (hn:0<n) (hl:σ.c.pool.length≤900000) (hlc:m.mv.code.length≤900000) (hlj:m.jumps.length≤900000)
  (c:Int) (hc:aqP (ws.headD ⟨#[]⟩).data.toList=c) (hc0:0≤c) (nm:List UInt8) (hnm:(aqc c).1=nm) (hf:(aqc c).2= [117]) (h18:(c==18)=true) (hlen:ws.length - 1=bqY [117]):
  Calls Tryz.prog 137 #[.pointer (some ⟨kb,0,none⟩), .slice A n cap] w (cqh [1,3,10,11] w ρ B kb (σ.instr m ws)):=by
 have hnl:=hw.len
 obtain⟨b,off,s0,rfl,hb,hub,hcc,c0,hfi⟩:=kqa hw hn hc
 have HFI:=Hq hfi
 have hle:=hw.le
 have hmx:=hw.max
 have HH:=Hq hK
 have hB:=hK.hB
 have hkl:=hK.box.lt
 have HCC:=Hq hcc
 have HUB:=Hq hub
 have HZ:=Hq hz
 have HI0:=Hq (show InK w ρ B kb m U σ w ρ V from⟨hK,hM,Chg.refl _ _ _⟩)
 have HFO:=Hq (fun W=>fqg hnm hf W)
 have hcr:=aqM (ws.headD ⟨#[]⟩).data.toList
 rw [hc] at hcr
 have hd0: ¬(c<0):=by omega
 obtain⟨AC,kC,hcv⟩:=aqf hM.code.1
 have hcw:IntKind.u8.wrap c=c:=by show c%256=c;omega
 replace hlen:ws.length - 1=1:=hlen
 have hnn:n=2:=by omega
 subst hnn
 have HGO:=bq1 (σ:=σ) (m:=m) hc hc0 hnm hf hlen
 obtain⟨s1,hdr,_⟩:=eqe hlen
 rw [hdr] at HGO
 have hs1:=bqc (i:=0) hdr rfl
 have zs1:=hz s1 (List.mem_of_getElem? hs1)
 have cs1:=hcc 1 s1 hs1
 have hc18:c=18:=by simpa using h18
 have HNL:=Hq (show nm= [108,100,99] from by rw [←hnm,hc18];decide)
 have HC18:=Hq hc18
 clear hc18
 clear hK hM hw hz hcc hc hfi hub hnm hf hnl hlen hdr hs1
 go_enter Tryz.func137,Tryz.ntmps137
 go_wp2_with (go_at_call 168;refine aqa ?_)
 refine aqb ?_
 refine(HFI.out _).mono ?_
 rintro e w1 ⟨rfl,hb1⟩
 have HI1:=Hq (HI0.out.below hb1)
 go_wp2_with (go_at_call 169;refine aqa ?_)
 refine aqb ?_
 refine(HFO.out _).mono ?_
 rintro e w2 ⟨rfl,hb2⟩
 have HI2:=Hq (HI1.out.below hb2)
 have d19:w2.cell? ⟨kb,19,none⟩=some (.slice AC m.mv.code.length kC):=by rw [←hcv];exact HI2.out.k.box.cell 19 rfl
 clear hb1 hb2 HI0 HI1 c0
 have es1:=(HI2.out.chg.cell0 (by decide) hb HUB.out (off+1)).trans cs1
 go_wp2_with (go_at_call 136;refine aqa ?_)
 refine aqb ?_
 refine(bqB s1 (-2147483648) 2147483647 _ (by omega)).mono ?_
 intro e w3 hq
 rcases bqy hq with⟨hp,v',rfl,hb3⟩ | ⟨v,hp,rfl,hb3⟩
 ·have HP:=Hq (show σ.instr m ws=none from HGO.trans (by rw [aqL,eqd rfl HNL.out,hp];rfl))
  have HI3:=Hq (HI2.out.below hb3)
  clear hq hp hb3 HGO
  go_wp2_with fail
  go_ret
  exact aqh HP.out (HI3.out.chg.below HH.out.low hB (by decide))
 have HI3:=Hq (HI2.out.below hb3)
 have hvr:=cqU hp
 clear hq hb3 HI2 es1 d19
 go_wp2_with (go_at_call 141;refine aqa ?_)
 refine aqb ?_
 refine(iq9 _ B kb σ V (aq4 m U) v _ HI3.out.k hvr (by omega)).mono ?_
 rintro e w4 ⟨rfl,ρ4,pv4,hm,hg⟩
 have HI4:=Hq (HI3.out.step hm hg)
 clear hm hg HI3
 have c19:=HI4.out.k.box.cell 19 (show _=some U.cv from rfl)
 rw [hcv] at c19
 obtain⟨nn,hnn⟩: ∃x,x=(σ.number v).1:=⟨_,rfl⟩
 have HNN:=Hq hnn
 rw [←hnn]
 clear hnn
 have hso2:(σ.number v).2.m.isSome=true:=hso
 rcases Nat.lt_or_ge nn 256 with h256|h256
 ·have h256':decide ((nn:Int) <256)=true:=by rw [decide_eq_true_eq];omega
  go_wp2_with (at_builtin;refine aqa ?_)
  refine aqb ?_
  have HA5:=Hq (HI4.out.below ((Below.refl _ _).alloc (Nat.le_refl _) (.cells #[.int .u8 18, .int .u8 (nn:Int)] 5)))
  have HOC:=Hq (HA5.out.mt.code.1)
  rw [hcv] at HOC
  refine aq5 (v:= .slice AC m.mv.code.length kC) (n:=m.mv.code.length) (xs:=m.mv.code.map bV) (news:= [.int .u8 18, .int .u8 (nn:Int)]) rfl _ _ 34 rfl Tryz.underlying34 aqu rfl (by omega) B rfl HOC.out rfl (by simp) (fun _=> ⟨_,rfl,aqd _ _ _ _ rfl⟩) (by simp [Value.oneCell']) (by omega) (by simp only [maxLen];omega) (by omega) (HA5.out.k.hB) ?_
  intro g9 k9 W9 ho hg hbb hgg hlt
  have HG9:=Hq hg
  have HO9:=Hq ho
  have HGG:=Hq hgg
  have e19:=((HG9.out.block kb HA5.out.k.box.lt (fun e=>absurd ((HA5.out.mt.code.2 _ (by rw [hcv];exact e.symm)).symm.trans HA5.out.k.kc) (by decide))).trans HA5.out.k.box)
  have c9:=Bx.cell e19 19 rfl
  have z9:=Bx.frozen e19 19
  clear ho hg hbb hgg e19
  go_wp2_with fail
  go_ret
  obtain⟨ρ9,U9,hk9,hm9,hc9⟩:=HA5.out.fin (bytes:= [18,aqn nn]) hso2 (by rw [hcv];exact HG9.out) HO9.out (by rw [List.map_cons,List.map_cons,List.map_nil, ←aqF,show IntKind.u8.wrap (nn:Int)=nn from by show(nn:Int)%256=nn;omega];rfl) (by rw [hcv];exact HGG.out)
  refine aqs (V':={ V with pv:=pv4 }) (σ':={ (σ.number v).2 with m:=some { m with mv:={ m.mv with code:=m.mv.code++ [18,aqn nn] } } }) (HGO.trans ?_) hk9 ⟨_,rfl,hm9⟩ hc9
  rw [aqL,eqd rfl HNL.out,hp,Option.bind_some,if_pos (by rw [←HNN.out];exact h256),HC18.out, ←HNN.out,Option.bind_some,aqL]
  simp [mAt,show aqn 18=18 from rfl]
 have h256':decide ((nn:Int) <256)=false:=by rw [decide_eq_false_iff_not];omega
 go_wp2_with (at_builtin;refine aqa ?_)
 refine aqb ?_
 have HA5:=Hq (HI4.out.below ((Below.refl _ _).alloc (Nat.le_refl _) (.cells #[.int .u8 18, .int .u8 ((nn:Int)%256)] 5)))
 have HOC:=Hq (HA5.out.mt.code.1)
 rw [hcv] at HOC
 refine aq5 (v:= .slice AC m.mv.code.length kC) (n:=m.mv.code.length) (xs:=m.mv.code.map bV) (news:= [.int .u8 18, .int .u8 ((nn:Int)%256)]) rfl _ _ 34 rfl Tryz.underlying34 aqu rfl (by omega) B rfl HOC.out rfl (by simp) (fun _=> ⟨_,rfl,aqd _ _ _ _ rfl⟩) (by simp [Value.oneCell']) (by omega) (by simp only [maxLen];omega) (by omega) (HA5.out.k.hB) ?_
 intro g9 k9 W9 ho hg hbb hgg hlt
 have HG9:=Hq hg
 have HO9:=Hq ho
 have HGG:=Hq hgg
 have e19:=((HG9.out.block kb HA5.out.k.box.lt (fun e=>absurd ((HA5.out.mt.code.2 _ (by rw [hcv];exact e.symm)).symm.trans HA5.out.k.kc) (by decide))).trans HA5.out.k.box)
 have c9:=Bx.cell e19 19 rfl
 have z9:=Bx.frozen e19 19
 clear ho hg hbb hgg e19
 go_wp2_with fail
 go_ret
 obtain⟨ρ9,U9,hk9,hm9,hc9⟩:=HA5.out.fin (bytes:= [18,aqn nn]) hso2 (by rw [hcv];exact HG9.out) HO9.out (by rw [List.map_cons,List.map_cons,List.map_nil, ←aqF];rfl) (by rw [hcv];exact HGG.out)
 refine aqh (HGO.trans ?_) (hc9.below HH.out.low hB (by decide))
 rw [aqL,eqd rfl HNL.out,hp,Option.bind_some,if_neg (by rw [←HNN.out];omega)]
 rfl
theorem nqO (ρ:Nat→Nat) (B kb:Nat) (σ:AsK) (V:RkV) (m:AsM) (U:RtV) (A:Option Addr) (n cap:Nat) (ws:List ByteArray) (w:World) (N:Nat) (hK:RkC w ρ B kb σ V (aq4 m U)) (hso:σ.m.isSome=true) (hM:RtC w ρ B m U) (hw:WdA w (Un ρ) A n cap ws) (hz:SmW ws) (hn:0<n) (hl:σ.c.pool.length≤900000) (hlc:m.mv.code.length≤900000) (hlj:m.jumps.length≤900000)
  (c:Int) (hc:aqP (ws.headD ⟨#[]⟩).data.toList=c) (hc0:0≤c) (nm:List UInt8) (hnm:(aqc c).1=nm) (hf:(aqc c).2= [106]) (h18:(c==18)=false) (hlen:ws.length - 1=bqY [106]):
  Calls Tryz.prog 137 #[.pointer (some ⟨kb,0,none⟩), .slice A n cap] w (cqh [1,3,10,11] w ρ B kb (σ.instr m ws)):=by
 have hnl:=hw.len
 obtain⟨b,off,s0,rfl,hb,hub,hcc,c0,hfi⟩:=kqa hw hn hc
 have HFI:=Hq hfi
 have hle:=hw.le
 have hmx:=hw.max
 have HH:=Hq hK
 have hB:=hK.hB
 have hkl:=hK.box.lt
 have HCC:=Hq hcc
 have HUB:=Hq hub
 have HZ:=Hq hz
 have HI0:=Hq (show InK w ρ B kb m U σ w ρ V from⟨hK,hM,Chg.refl _ _ _⟩)
 have HFO:=Hq (fun W=>fqg hnm hf W)
 have hcr:=aqM (ws.headD ⟨#[]⟩).data.toList
 rw [hc] at hcr
 have hd0: ¬(c<0):=by omega
 obtain⟨AC,kC,hcv⟩:=aqf hM.code.1
 have hcw:IntKind.u8.wrap c=c:=by show c%256=c;omega
 replace hlen:ws.length - 1=1:=hlen
 have hnn:n=2:=by omega
 subst hnn
 have HGO:=bq1 (σ:=σ) (m:=m) hc hc0 hnm hf hlen
 obtain⟨s1,hdr,_⟩:=eqe hlen
 rw [hdr] at HGO
 have hs1:=bqc (i:=0) hdr rfl
 have zs1:=hz s1 (List.mem_of_getElem? hs1)
 have cs1:=hcc 1 s1 hs1
 obtain⟨AJ,kJ,hjv⟩:=aqf hM.jumps.1
 clear hK hM hw hz hcc hc hfi hub hnm hf hnl hlen hdr hs1
 go_enter Tryz.func137,Tryz.ntmps137
 go_wp2_with (go_at_call 168;refine aqa ?_)
 refine aqb ?_
 refine(HFI.out _).mono ?_
 rintro e w1 ⟨rfl,hb1⟩
 have HI1:=Hq (HI0.out.below hb1)
 go_wp2_with (go_at_call 169;refine aqa ?_)
 refine aqb ?_
 refine(HFO.out _).mono ?_
 rintro e w2 ⟨rfl,hb2⟩
 have HI2:=Hq (HI1.out.below hb2)
 have d19:w2.cell? ⟨kb,19,none⟩=some (.slice AC m.mv.code.length kC):=by rw [←hcv];exact HI2.out.k.box.cell 19 rfl
 clear hb1 hb2 HI0 HI1 c0
 go_wp2_with fail
 refine wp_loop_rounds 2 ?_
 rw [rounds_succ]
 go_wp2_with fail
 rw [rounds_succ]
 go_wp2_with fail
 have hz2:=HI2.out.chg.size
 have HI3:=Hq (HI2.out.below ((Below.refl _ _).alloc (Nat.le_refl _) (.cells #[.int .u8 c] 5)))
 have HB3:=Hq (show RwB w (w2.alloc (.cells #[.int .u8 c] 5)) ρ w2.heap.size 1 [aqn c] from⟨by
  have h1:=cq7 w2 [.int .u8 c] 5 w.heap.size 1 hz2 rfl (by simp [maxLen])
  have h2:=aqF c
  rw [hcw] at h2
  rw [List.map_cons,List.map_nil, ←h2]
  exact h1,HI2.out.k.low.fresh (Nat.le_refl _)⟩)
 clear HI2 d19
 refine wp_loop_rounds 2 ?_
 rw [rounds_succ]
 have es1:=(HI3.out.chg.cell0 (by decide) hb HUB.out (off+1)).trans cs1
 have HR:=Hq HI3.out.k
 have HO:=Hq HI3.out.mt.jumps.1
 have c22:=HI3.out.k.box.cell 22 (show _=some U.jv from rfl)
 rw [hjv] at HO c22
 have z22:=HI3.out.k.box.frozen 22
 have hBw:=HI3.out.k.hB
 have hkr:=HI3.out.k.box.lt
 simp only [World.size_alloc] at hBw hkr
 have hnk:(Value.slice AJ m.jumps.length kJ).ownBlock≠some kb:=fun e=>by
  have h1:=HI3.out.mt.jumps.2 kb (by rw [hjv];exact e)
  rw [HI3.out.k.kc] at h1
  omega
 go_wp2_with fail
 go_region_law (first
  | (refine aqt rfl (.tmp 216) (.tmp 224) 77 rfl Tryz.underlying77 jq9 rfl (by omega) B rfl ((aqp HO.out (fun _ _=>rfl)).alloc _) rfl rfl (aqd _ _ _ _ (by first|rfl|omega| (simp<;>omega))) (by simp [Value.oneCell']) (by omega) (by simp only [maxLen];omega) (by omega) (by first|rfl|omega| (simp<;>omega)) ?_
     intro g6 cap6 W' ho hg hb hgg
     have HO6:=Hq ho
     have HG6:=Hq hg
     have X6:=Hq (show Bx W' kb (aq3 σ V++aq4 m U) 80 from(hg.block kb (by first|omega| (simp;omega)) (fun e=>hnk e.symm)).trans ((Below.heap_alloc _ _ _ (by first|omega| (simp;omega))).trans HR.out.box))
     have c6:=X6.out.cell 22 rfl
     have z6:=X6.out.frozen 22
     have HGG:=Hq hgg
     clear ho hg hb hgg))
 all_goals
  have hwj:IntKind.i64.wrap ((m.mv.code.length:Int)+1)=(m.mv.code.length:Int)+1:=IntWalk.i64_in _ (by omega)
  (try rw [hwj] at HG6)
  (try rw [hwj] at HO6)
  have HA4:=Hq (HI3.out.below ((Below.refl _ _).alloc (Nat.le_refl _) (.cells #[.int .i64 m.mv.code.length, .int .i64 ((m.mv.code.length:Int)+1), .string s1] 132)))
  have hgv:U.jv.ownBlock=some g6∨((w2.alloc (.cells #[.int .u8 c] 5)).alloc (.cells #[.int .i64 m.mv.code.length, .int .i64 ((m.mv.code.length:Int)+1), .string s1] 132)).heap.size≤g6:=by
   rcases HGG.out with e|e
   ·exact .inl (by rw [hjv];exact e)
   exact .inr (Nat.le_of_eq (by rw [e];first|rfl| (simp [World.drew];done) |simp))
  obtain⟨ρ5,hI5,hC5⟩:=HA4.out.jump (x:=⟨m.mv.code.length+1,m.mv.code.length,s1⟩) (W2:=W') (g6:=g6) (cap6:=cap6) (by rw [hjv];exact⟨HG6.out.os,HG6.out.tape,HG6.out.output,HG6.out.size,HG6.out.block⟩) (by simpa [AsF.rcells] using HO6.out) hgv
  have HI5:=Hq hI5
  have HB5:=Hq ((HB3.out.chg (Chg.of_below (cs:= []) ((Below.refl _ _).alloc (Nat.le_refl _) (.cells #[.int .i64 m.mv.code.length, .int .i64 ((m.mv.code.length:Int)+1), .string s1] 132))) (by simp)).chg hC5 (by simp))
  clear hI5 hC5 hgv HA4 HO6 HG6 HGG X6 c6 z6
  have HA6:=Hq (HI5.out.below ((Below.refl _ _).alloc (Nat.le_refl _) (.cells #[.int .u8 0, .int .u8 0] 5)))
  have HBA6:=Hq (HB5.out.chg (Chg.of_below (cs:= []) ((Below.refl _ _).alloc (Nat.le_refl _) (.cells #[.int .u8 0, .int .u8 0] 5))) (by simp))
  go_wp2_with (at_builtin;refine aqa ?_)
  refine aqb ?_
  refine aq5 rfl _ _ 34 rfl Tryz.underlying34 aqu rfl (by omega) w.heap.size rfl HBA6.out.own rfl rfl (fun _=> ⟨_,rfl,aqd _ _ _ _ (by first|rfl|simp)⟩) (by simp [Value.oneCell']) (by simp) (by simp [maxLen,aqT]) (by simp [aqT]) (by have h1:=HBA6.out.lt;simp at h1⊢;omega) ?_
  intro g6 k6 W6 ho hg hbb hgg hlt
  have HI6:=Hq (HA6.out.app HBA6.out hg)
  have HB6:=Hq (RwB.more (more:= [0,0]) HA6.out.k.low HBA6.out ho (by rfl) hgg)
  clear ho hg hbb hgg hlt HA6 HBA6
  go_wp2_with fail
  rw [rounds_succ]
  have HP:=Hq (show σ.instr m ws=some { σ with m:=some { m with jumps:=m.jumps++ [⟨m.mv.code.length+1,m.mv.code.length,s1⟩],mv:={ m.mv with code:=m.mv.code++([aqn c]++ [0,0]) } } } from HGO.trans (by rw [aqL,nq1 rfl,Option.bind_some,aqL];simp [mAt]))
  clear HGO
  have c19:=HI6.out.k.box.cell 19 (show _=some U.cv from rfl)
  rw [hcv] at c19
  go_wp2_with (at_builtin;refine aqa ?_)
  refine aqb ?_
  have HOC:=Hq (show World.ownsRow _ B 5 1 (.slice AC m.mv.code.length kC) m.mv.code.length (m.mv.code.map bV) from by rw [←hcv];exact HI6.out.mt.code.1)
  refine aq5 (v:= .slice AC m.mv.code.length kC) (n:=m.mv.code.length) (xs:=m.mv.code.map bV) (news:=(([aqn c]++ [0,0]):List UInt8).map bV) rfl _ _ 34 rfl Tryz.underlying34 aqu rfl (by omega) B rfl HOC.out rfl (by simp [aqT]) (fun _=> ⟨_,rfl,HB6.out.cells⟩) (dqd _) (by first|omega| (simp [aqT];omega)) (by simp only [maxLen];first|omega| (simp [aqT];omega)) (by first|omega| (simp [aqT];omega)) (HI6.out.k.hB) ?_
  intro g9 k9 W9 ho hg hbb hgg hlt
  have HG9:=Hq hg
  have HO9:=Hq ho
  have HGG:=Hq hgg
  have e19:=((HG9.out.block kb HI6.out.k.box.lt (fun e=>absurd ((HI6.out.mt.code.2 _ (show U.cv.ownBlock=some kb by rw [hcv];exact e.symm)).symm.trans HI6.out.k.kc) (by decide))).trans HI6.out.k.box)
  have c9:=Bx.cell e19 19 rfl
  have z9:=Bx.frozen e19 19
  clear ho hg hbb hgg e19
  go_wp2_with fail
  go_ret
  obtain⟨ρ9,U9,hk9,hm9,hc9⟩:=HI6.out.fin (bytes:=([aqn c]++ [0,0])) hso (show World.grownBy _ _ U.cv.ownBlock by rw [hcv];exact HG9.out) HO9.out rfl (show U.cv.ownBlock=some g9∨_ by rw [hcv];exact HGG.out)
  exact aqs (V':=V) HP.out hk9 ⟨_,rfl,hm9⟩ hc9
theorem nqP (ρ:Nat→Nat) (B kb:Nat) (σ:AsK) (V:RkV) (m:AsM) (U:RtV) (A:Option Addr) (n cap:Nat) (ws:List ByteArray) (w:World) (N:Nat) (hK:RkC w ρ B kb σ V (aq4 m U)) (hso:σ.m.isSome=true) (hM:RtC w ρ B m U) (hw:WdA w (Un ρ) A n cap ws) (hz:SmW ws) (hn:0<n) (hl:σ.c.pool.length≤900000) (hlc:m.mv.code.length≤900000) (hlj:m.jumps.length≤900000)
  (c:Int) (hc:aqP (ws.headD ⟨#[]⟩).data.toList=c) (hc0:0≤c) (nm:List UInt8) (hnm:(aqc c).1=nm) (hf:(aqc c).2= [102]) (h18:(c==18)=false) (hlen:ws.length - 1=bqY [102]):
  Calls Tryz.prog 137 #[.pointer (some ⟨kb,0,none⟩), .slice A n cap] w (cqh [1,3,10,11] w ρ B kb (σ.instr m ws)):=by
 have hnl:=hw.len
 obtain⟨b,off,s0,rfl,hb,hub,hcc,c0,hfi⟩:=kqa hw hn hc
 have HFI:=Hq hfi
 have hle:=hw.le
 have hmx:=hw.max
 have HH:=Hq hK
 have hB:=hK.hB
 have hkl:=hK.box.lt
 have HCC:=Hq hcc
 have HUB:=Hq hub
 have HZ:=Hq hz
 have HI0:=Hq (show InK w ρ B kb m U σ w ρ V from⟨hK,hM,Chg.refl _ _ _⟩)
 have HFO:=Hq (fun W=>fqg hnm hf W)
 have hcr:=aqM (ws.headD ⟨#[]⟩).data.toList
 rw [hc] at hcr
 have hd0: ¬(c<0):=by omega
 obtain⟨AC,kC,hcv⟩:=aqf hM.code.1
 have hcw:IntKind.u8.wrap c=c:=by show c%256=c;omega
 replace hlen:ws.length - 1=3:=hlen
 have hnn:n=4:=by omega
 subst hnn
 have HGO:=bq1 (σ:=σ) (m:=m) hc hc0 hnm hf hlen
 obtain⟨s1,s2,s3,hdr,_,_,_⟩:=eq1 hlen
 rw [hdr] at HGO
 have hs1:=bqc (i:=0) hdr rfl
 have zs1:=hz s1 (List.mem_of_getElem? hs1)
 have cs1:=hcc 1 s1 hs1
 have hs2:=bqc (i:=1) hdr rfl
 have zs2:=hz s2 (List.mem_of_getElem? hs2)
 have cs2:=hcc 2 s2 hs2
 have hs3:=bqc (i:=2) hdr rfl
 have zs3:=hz s3 (List.mem_of_getElem? hs3)
 have cs3:=hcc 3 s3 hs3
 clear hK hM hw hz hcc hc hfi hub hnm hf hnl hlen hdr hs1 hs2 hs3
 go_enter Tryz.func137,Tryz.ntmps137
 go_wp2_with (go_at_call 168;refine aqa ?_)
 refine aqb ?_
 refine(HFI.out _).mono ?_
 rintro e w1 ⟨rfl,hb1⟩
 have HI1:=Hq (HI0.out.below hb1)
 go_wp2_with (go_at_call 169;refine aqa ?_)
 refine aqb ?_
 refine(HFO.out _).mono ?_
 rintro e w2 ⟨rfl,hb2⟩
 have HI2:=Hq (HI1.out.below hb2)
 have d19:w2.cell? ⟨kb,19,none⟩=some (.slice AC m.mv.code.length kC):=by rw [←hcv];exact HI2.out.k.box.cell 19 rfl
 clear hb1 hb2 HI0 HI1 c0
 go_wp2_with fail
 refine wp_loop_rounds 2 ?_
 rw [rounds_succ]
 go_wp2_with fail
 rw [rounds_succ]
 go_wp2_with fail
 have hz2:=HI2.out.chg.size
 have HI3:=Hq (HI2.out.below ((Below.refl _ _).alloc (Nat.le_refl _) (.cells #[.int .u8 c] 5)))
 have HB3:=Hq (show RwB w (w2.alloc (.cells #[.int .u8 c] 5)) ρ w2.heap.size 1 [aqn c] from⟨by
  have h1:=cq7 w2 [.int .u8 c] 5 w.heap.size 1 hz2 rfl (by simp [maxLen])
  have h2:=aqF c
  rw [hcw] at h2
  rw [List.map_cons,List.map_nil, ←h2]
  exact h1,HI2.out.k.low.fresh (Nat.le_refl _)⟩)
 clear HI2 d19
 refine wp_loop_rounds 2 ?_
 rw [rounds_succ]
 have es1:=(HI3.out.chg.cell0 (by decide) hb HUB.out (off+1)).trans cs1
 have es2:=(HI3.out.chg.cell0 (by decide) hb HUB.out (off+2)).trans cs2
 have es3:=(HI3.out.chg.cell0 (by decide) hb HUB.out (off+3)).trans cs3
 have hlm:=Hq hl
 obtain⟨rr,hrr⟩: ∃r,r=σ.member 9 s1 s2 s3:=⟨_,rfl⟩
 have HRR:=Hq hrr
 have HD3:=Hq (HI3.out.below (below_drewN (Below.refl _ _) 1))
 have HBD3:=Hq (HB3.out.chg (Chg.of_below (cs:= []) (below_drewN (Below.refl _ _) 1)) (by simp))
 have HMB:=Hq (eqs _ B kb σ V (aq4 m U) 9 s1 s2 s3 _ HD3.out.k (by unfold cqF;omega) zs1 zs2 zs3 (by omega))
 rw [←hrr] at HMB
 clear hrr
 go_wp2_with fail
 go_region_law (first
  | (go_simp;go_at_call 170
     refine HMB.out.mono ?_
     rintro e w4 ⟨rfl,ρ4,pv4,hm,hg⟩
     have HI4:=Hq (HD3.out.step hm hg)
     have HB4:=Hq (HBD3.out.chg hg (by simp))
     clear hm hg)
  | (go_simp;go_at_call 68
     refine(dqt (rr.1:Int) _).mono ?_
     rintro e w5 ⟨r,rfl,hor,hb5⟩
     have HOR:=Hq hor
     have HI5:=Hq (HI4.out.below hb5)
     have HB5:=Hq (HB4.out.chg (Chg.of_below (cs:= []) hb5) (by simp))
     obtain⟨gq,kq,rfl⟩: ∃gq kq,r= .slice (some ⟨gq,0,none⟩) 2 kq:=by
       rcases Go.Joins.ownsRow_forms hor with⟨_,h0⟩ | ⟨g,k,e⟩
       ·omega
       exact⟨g,k,e⟩
     clear hor hb5)
  | (refine aqt rfl (.tmp 125) (.tmp 138) 34 rfl Tryz.underlying34 aqu rfl (by omega) w.heap.size rfl (aqp HB5.out.own (fun _ _=>rfl)) rfl (news:=(aqT rr.1).map bV) (by simp [aqT]) (fun j u hu=>by
       have hj:j<2:=by have:=(List.getElem?_eq_some_iff.1 hu).1;simpa [aqT] using this
       rw [←jq8] at hu
       rw [dqv,Nat.zero_add]
       refine Eq.trans ?_ hu
       exact HOR.out.cellAt j (by omega)) (dqd _) (by simp) (by simp [maxLen]) (by simp) (by have h1:=HB5.out.lt;first|omega| (simp at h1⊢;omega)) ?_
     intro g6 k6 w6 ho hg hbb hgg
     have HO6:=Hq ho
     have HG6:=Hq hg
     have HGG:=Hq hgg
     clear ho hg hbb hgg))
 all_goals
  have HI6:=Hq (HI5.out.app HB5.out HG6.out)
  have HB6:=Hq (RwB.more (more:=aqT rr.1) HI5.out.k.low HB5.out HO6.out rfl HGG.out)
  clear HG6 HO6 HGG HOR
  go_wp2_with fail
  rw [rounds_succ]
  have HP:=Hq (show σ.instr m ws=some { rr.2 with m:=some { m with mv:={ m.mv with code:=m.mv.code++([aqn c]++aqT rr.1) } } } from HGO.trans (by rw [HRR.out,aqL,nq3 rfl,Option.bind_some,aqL];simp [mAt]))
  clear HGO
  have hso2:rr.2.m.isSome=true:=by rw [HRR.out];exact hso
  have c19:=HI6.out.k.box.cell 19 (show _=some U.cv from rfl)
  rw [hcv] at c19
  go_wp2_with (at_builtin;refine aqa ?_)
  refine aqb ?_
  have HOC:=Hq (show World.ownsRow _ B 5 1 (.slice AC m.mv.code.length kC) m.mv.code.length (m.mv.code.map bV) from by rw [←hcv];exact HI6.out.mt.code.1)
  refine aq5 (v:= .slice AC m.mv.code.length kC) (n:=m.mv.code.length) (xs:=m.mv.code.map bV) (news:=(([aqn c]++aqT rr.1):List UInt8).map bV) rfl _ _ 34 rfl Tryz.underlying34 aqu rfl (by omega) B rfl HOC.out rfl (by simp [aqT]) (fun _=> ⟨_,rfl,HB6.out.cells⟩) (dqd _) (by first|omega| (simp [aqT];omega)) (by simp only [maxLen];first|omega| (simp [aqT];omega)) (by first|omega| (simp [aqT];omega)) (HI6.out.k.hB) ?_
  intro g9 k9 W9 ho hg hbb hgg hlt
  have HG9:=Hq hg
  have HO9:=Hq ho
  have HGG:=Hq hgg
  have e19:=((HG9.out.block kb HI6.out.k.box.lt (fun e=>absurd ((HI6.out.mt.code.2 _ (show U.cv.ownBlock=some kb by rw [hcv];exact e.symm)).symm.trans HI6.out.k.kc) (by decide))).trans HI6.out.k.box)
  have c9:=Bx.cell e19 19 rfl
  have z9:=Bx.frozen e19 19
  clear ho hg hbb hgg e19
  go_wp2_with fail
  go_ret
  obtain⟨ρ9,U9,hk9,hm9,hc9⟩:=HI6.out.fin (bytes:=([aqn c]++aqT rr.1)) hso2 (show World.grownBy _ _ U.cv.ownBlock by rw [hcv];exact HG9.out) HO9.out rfl (show U.cv.ownBlock=some g9∨_ by rw [hcv];exact HGG.out)
  exact aqs (V':={ V with pv:=pv4 }) HP.out hk9 ⟨_,rfl,hm9⟩ hc9
theorem nqQ (ρ:Nat→Nat) (B kb:Nat) (σ:AsK) (V:RkV) (m:AsM) (U:RtV) (A:Option Addr) (n cap:Nat) (ws:List ByteArray) (w:World) (N:Nat) (hK:RkC w ρ B kb σ V (aq4 m U)) (hso:σ.m.isSome=true) (hM:RtC w ρ B m U) (hw:WdA w (Un ρ) A n cap ws) (hz:SmW ws) (hn:0<n) (hl:σ.c.pool.length≤900000) (hlc:m.mv.code.length≤900000) (hlj:m.jumps.length≤900000)
  (c:Int) (hc:aqP (ws.headD ⟨#[]⟩).data.toList=c) (hc0:0≤c) (nm:List UInt8) (hnm:(aqc c).1=nm) (hf:(aqc c).2= [105]) (h18:(c==18)=false) (hlen:ws.length - 1=bqY [105]):
  Calls Tryz.prog 137 #[.pointer (some ⟨kb,0,none⟩), .slice A n cap] w (cqh [1,3,10,11] w ρ B kb (σ.instr m ws)):=by
 have hnl:=hw.len
 obtain⟨b,off,s0,rfl,hb,hub,hcc,c0,hfi⟩:=kqa hw hn hc
 have HFI:=Hq hfi
 have hle:=hw.le
 have hmx:=hw.max
 have HH:=Hq hK
 have hB:=hK.hB
 have hkl:=hK.box.lt
 have HCC:=Hq hcc
 have HUB:=Hq hub
 have HZ:=Hq hz
 have HI0:=Hq (show InK w ρ B kb m U σ w ρ V from⟨hK,hM,Chg.refl _ _ _⟩)
 have HFO:=Hq (fun W=>fqg hnm hf W)
 have hcr:=aqM (ws.headD ⟨#[]⟩).data.toList
 rw [hc] at hcr
 have hd0: ¬(c<0):=by omega
 obtain⟨AC,kC,hcv⟩:=aqf hM.code.1
 have hcw:IntKind.u8.wrap c=c:=by show c%256=c;omega
 replace hlen:ws.length - 1=3:=hlen
 have hnn:n=4:=by omega
 subst hnn
 have HGO:=bq1 (σ:=σ) (m:=m) hc hc0 hnm hf hlen
 obtain⟨s1,s2,s3,hdr,_,_,_⟩:=eq1 hlen
 rw [hdr] at HGO
 have hs1:=bqc (i:=0) hdr rfl
 have zs1:=hz s1 (List.mem_of_getElem? hs1)
 have cs1:=hcc 1 s1 hs1
 have hs2:=bqc (i:=1) hdr rfl
 have zs2:=hz s2 (List.mem_of_getElem? hs2)
 have cs2:=hcc 2 s2 hs2
 have hs3:=bqc (i:=2) hdr rfl
 have zs3:=hz s3 (List.mem_of_getElem? hs3)
 have cs3:=hcc 3 s3 hs3
 clear hK hM hw hz hcc hc hfi hub hnm hf hnl hlen hdr hs1 hs2 hs3
 go_enter Tryz.func137,Tryz.ntmps137
 go_wp2_with (go_at_call 168;refine aqa ?_)
 refine aqb ?_
 refine(HFI.out _).mono ?_
 rintro e w1 ⟨rfl,hb1⟩
 have HI1:=Hq (HI0.out.below hb1)
 go_wp2_with (go_at_call 169;refine aqa ?_)
 refine aqb ?_
 refine(HFO.out _).mono ?_
 rintro e w2 ⟨rfl,hb2⟩
 have HI2:=Hq (HI1.out.below hb2)
 have d19:w2.cell? ⟨kb,19,none⟩=some (.slice AC m.mv.code.length kC):=by rw [←hcv];exact HI2.out.k.box.cell 19 rfl
 clear hb1 hb2 HI0 HI1 c0
 go_wp2_with fail
 refine wp_loop_rounds 2 ?_
 rw [rounds_succ]
 go_wp2_with fail
 rw [rounds_succ]
 go_wp2_with fail
 have hz2:=HI2.out.chg.size
 have HI3:=Hq (HI2.out.below ((Below.refl _ _).alloc (Nat.le_refl _) (.cells #[.int .u8 c] 5)))
 have HB3:=Hq (show RwB w (w2.alloc (.cells #[.int .u8 c] 5)) ρ w2.heap.size 1 [aqn c] from⟨by
  have h1:=cq7 w2 [.int .u8 c] 5 w.heap.size 1 hz2 rfl (by simp [maxLen])
  have h2:=aqF c
  rw [hcw] at h2
  rw [List.map_cons,List.map_nil, ←h2]
  exact h1,HI2.out.k.low.fresh (Nat.le_refl _)⟩)
 clear HI2 d19
 refine wp_loop_rounds 2 ?_
 rw [rounds_succ]
 have es1:=(HI3.out.chg.cell0 (by decide) hb HUB.out (off+1)).trans cs1
 have es2:=(HI3.out.chg.cell0 (by decide) hb HUB.out (off+2)).trans cs2
 have es3:=(HI3.out.chg.cell0 (by decide) hb HUB.out (off+3)).trans cs3
 have hlm:=Hq hl
 obtain⟨rr,hrr⟩: ∃r,r=σ.member 11 s1 s2 s3:=⟨_,rfl⟩
 have HRR:=Hq hrr
 have HD3:=Hq (HI3.out.below (below_drewN (Below.refl _ _) 1))
 have HBD3:=Hq (HB3.out.chg (Chg.of_below (cs:= []) (below_drewN (Below.refl _ _) 1)) (by simp))
 have HMB:=Hq (eqs _ B kb σ V (aq4 m U) 11 s1 s2 s3 _ HD3.out.k (by unfold cqF;omega) zs1 zs2 zs3 (by omega))
 rw [←hrr] at HMB
 clear hrr
 go_wp2_with fail
 go_region_law (first
  | (go_simp;go_at_call 170
     refine HMB.out.mono ?_
     rintro e w4 ⟨rfl,ρ4,pv4,hm,hg⟩
     have HI4:=Hq (HD3.out.step hm hg)
     have HB4:=Hq (HBD3.out.chg hg (by simp))
     clear hm hg)
  | (go_simp;go_at_call 68
     refine(dqt (rr.1:Int) _).mono ?_
     rintro e w5 ⟨r,rfl,hor,hb5⟩
     have HOR:=Hq hor
     have HI5:=Hq (HI4.out.below hb5)
     have HB5:=Hq (HB4.out.chg (Chg.of_below (cs:= []) hb5) (by simp))
     obtain⟨gq,kq,rfl⟩: ∃gq kq,r= .slice (some ⟨gq,0,none⟩) 2 kq:=by
       rcases Go.Joins.ownsRow_forms hor with⟨_,h0⟩ | ⟨g,k,e⟩
       ·omega
       exact⟨g,k,e⟩
     clear hor hb5)
  | (refine aqt rfl (.tmp 125) (.tmp 138) 34 rfl Tryz.underlying34 aqu rfl (by omega) w.heap.size rfl (aqp HB5.out.own (fun _ _=>rfl)) rfl (news:=(aqT rr.1).map bV) (by simp [aqT]) (fun j u hu=>by
       have hj:j<2:=by have:=(List.getElem?_eq_some_iff.1 hu).1;simpa [aqT] using this
       rw [←jq8] at hu
       rw [dqv,Nat.zero_add]
       refine Eq.trans ?_ hu
       exact HOR.out.cellAt j (by omega)) (dqd _) (by simp) (by simp [maxLen]) (by simp) (by have h1:=HB5.out.lt;first|omega| (simp at h1⊢;omega)) ?_
     intro g6 k6 w6 ho hg hbb hgg
     have HO6:=Hq ho
     have HG6:=Hq hg
     have HGG:=Hq hgg
     clear ho hg hbb hgg))
 all_goals
  have HI6:=Hq (HI5.out.app HB5.out HG6.out)
  have HB6:=Hq (RwB.more (more:=aqT rr.1) HI5.out.k.low HB5.out HO6.out rfl HGG.out)
  clear HG6 HO6 HGG HOR
  have es4:=(HI6.out.chg.cell0 (by decide) hb HUB.out (off+3)).trans cs3
  obtain⟨K,hKK⟩: ∃k,(aqk s3).1=k:=⟨_,rfl⟩
  have hkl3:=cqT s3
  rw [hKK] at hkl3
  have HKK:=Hq hKK
  have HKI:=Hq (fun W=>cqL s3 W (by omega))
  rw [hKK] at HKI
  have hkw:IntKind.i64.wrap ((K.size:Int)+1)=(K.size:Int)+1:=IntWalk.i64_in _ (by omega)
  clear hKK
  go_wp2_with (go_at_call 142;refine aqa ?_)
  refine aqb ?_
  refine(HKI.out _).mono ?_
  rintro e w7 ⟨rfl,hb7⟩
  have HI7:=Hq (HI6.out.below hb7)
  have HB7:=Hq (HB6.out.chg (Chg.of_below (cs:= []) hb7) (by simp))
  clear hb7 es4
  have HA8:=Hq (HI7.out.below ((Below.refl _ _).alloc (Nat.le_refl _) (.cells #[.int .u8 ((K.size:Int)+1), .int .u8 0] 5)))
  have HBA8:=Hq (HB7.out.chg (Chg.of_below (cs:= []) ((Below.refl _ _).alloc (Nat.le_refl _) (.cells #[.int .u8 ((K.size:Int)+1), .int .u8 0] 5))) (by simp))
  go_wp2_with (at_builtin;refine aqa ?_)
  refine aqb ?_
  refine aq5 rfl _ _ 34 rfl Tryz.underlying34 aqu rfl (by omega) w.heap.size rfl HBA8.out.own rfl rfl (fun _=> ⟨_,rfl,aqd _ _ _ _ (by first|rfl|simp)⟩) (by simp [Value.oneCell']) (by simp) (by simp [maxLen,aqT]) (by simp [aqT]) (by have h1:=HBA8.out.lt;simp at h1⊢;omega) ?_
  intro g8 k8 W8 ho hg hbb hgg hlt
  have HI8:=Hq (HA8.out.app HBA8.out hg)
  have HB8:=Hq (RwB.more (more:= [aqn ((K.size:Int)+1),0]) HA8.out.k.low HBA8.out ho (by rw [List.map_cons,List.map_cons,List.map_nil, ←aqF,show IntKind.u8.wrap ((K.size:Int)+1)=(K.size:Int)+1 from by show((K.size:Int)+1)%256=(K.size:Int)+1;omega];rfl) hgg)
  clear ho hg hbb hgg hlt HA8 HBA8
  go_wp2_with fail
  rw [rounds_succ]
  have HP:=Hq (show σ.instr m ws=some { rr.2 with m:=some { m with mv:={ m.mv with code:=m.mv.code++(([aqn c]++aqT rr.1)++ [aqn ((K.size:Int)+1),0]) } } } from HGO.trans (by rw [HRR.out,aqL,nq5 rfl,Option.bind_some,aqL,HKK.out];simp [mAt]))
  clear HGO
  have hso2:rr.2.m.isSome=true:=by rw [HRR.out];exact hso
  have c19:=HI8.out.k.box.cell 19 (show _=some U.cv from rfl)
  rw [hcv] at c19
  go_wp2_with (at_builtin;refine aqa ?_)
  refine aqb ?_
  have HOC:=Hq (show World.ownsRow _ B 5 1 (.slice AC m.mv.code.length kC) m.mv.code.length (m.mv.code.map bV) from by rw [←hcv];exact HI8.out.mt.code.1)
  refine aq5 (v:= .slice AC m.mv.code.length kC) (n:=m.mv.code.length) (xs:=m.mv.code.map bV) (news:=((([aqn c]++aqT rr.1)++ [aqn ((K.size:Int)+1),0]):List UInt8).map bV) rfl _ _ 34 rfl Tryz.underlying34 aqu rfl (by omega) B rfl HOC.out rfl (by simp [aqT]) (fun _=> ⟨_,rfl,HB8.out.cells⟩) (dqd _) (by first|omega| (simp [aqT];omega)) (by simp only [maxLen];first|omega| (simp [aqT];omega)) (by first|omega| (simp [aqT];omega)) (HI8.out.k.hB) ?_
  intro g9 k9 W9 ho hg hbb hgg hlt
  have HG9:=Hq hg
  have HO9:=Hq ho
  have HGG:=Hq hgg
  have e19:=((HG9.out.block kb HI8.out.k.box.lt (fun e=>absurd ((HI8.out.mt.code.2 _ (show U.cv.ownBlock=some kb by rw [hcv];exact e.symm)).symm.trans HI8.out.k.kc) (by decide))).trans HI8.out.k.box)
  have c9:=Bx.cell e19 19 rfl
  have z9:=Bx.frozen e19 19
  clear ho hg hbb hgg e19
  go_wp2_with fail
  go_ret
  obtain⟨ρ9,U9,hk9,hm9,hc9⟩:=HI8.out.fin (bytes:=(([aqn c]++aqT rr.1)++ [aqn ((K.size:Int)+1),0])) hso2 (show World.grownBy _ _ U.cv.ownBlock by rw [hcv];exact HG9.out) HO9.out rfl (show U.cv.ownBlock=some g9∨_ by rw [hcv];exact HGG.out)
  exact aqs (V':={ V with pv:=pv4 }) HP.out hk9 ⟨_,rfl,hm9⟩ hc9
end Go.Proofs.YtlcidkiplidamaaGreatDoor
