/-
  What the laws rest on, part 26: walks of the program's functions and plain laws. Conditions: none but those that each theorem names.
-/
import Derived.Test.YtlcidkiplidamaaGreatDoorB22
import Derived.Test.YtlcidkiplidamaaGreatDoorB23
import Derived.Test.YtlcidkiplidamaaGreatDoorB24
import Derived.Laws.EntriesVeiled
import Derived.WalkMore
import Derived.Lib.SmallJoins
import Derived.RegionTactic
set_option linter.unusedSimpArgs false
set_option linter.unusedVariables false
set_option maxRecDepth 100000
set_option maxHeartbeats 4000000
namespace Go.Proofs.YtlcidkiplidamaaGreatDoor
open Go Go.RowKit Lib Go.Maps
theorem instr_s (ρ:Nat→Nat) (B kb xb:Nat) (σ:AsK) (V:MkV) (m:AsM) (U:MtV) (A:Option Addr) (n cap:Nat) (ws:List ByteArray) (w:World) (N:Nat) (hK:MkC w ρ B kb σ V) (hV:V.mv= .pointer (some ⟨xb,0,none⟩)) (hM:MtC w ρ B xb m U) (hw:WdA w (Un ρ) A n cap ws) (hz:SmW ws) (hn:0<n) (hS:AsSm σ N) (hMS:AsMSm m N) (hN:N≤900000)
  (c:Int) (hc:codeOf (ws.headD ⟨#[]⟩).data.toList=c) (hc0:0≤c) (nm:List UInt8) (hnm:(rowOf c).1=nm) (hf:(rowOf c).2= [115]):
  Calls Tryz.prog 57 #[.pointer (some ⟨kb,0,none⟩), .slice A n cap] w (LPost [1,2,3,4,5,6,7,8,9,10,11,12,13] w ρ B kb σ.line (σ.instr m ws)):=by
 have hmf: ∀(fn:Fn) (first cap:Array Value) (w:World),(Instr.makeFunc fn first cap).run Tryz.prog w= .ok (.func fn first cap) w:=fun _ _ _ _=>rfl
 obtain⟨b,off,hA,hb,hub,hcc⟩:=hw.hat hn
 subst hA
 have hle:=hw.le
 have hmx:=hw.max
 have hnw:=hw.len
 subst hnw
 obtain⟨s0,hs0⟩: ∃s,ws[0]?=some s:=⟨_,List.getElem?_eq_getElem hn⟩
 have hh:ws.headD ⟨#[]⟩=s0:=by
  cases ws with
  |nil=>cases hs0
  |cons a l=>cases hs0;rfl
 have c0:=hcc 0 s0 hs0
 rw [Nat.add_zero] at c0
 have z0:=hz s0 (List.mem_of_getElem? hs0)
 have hc':codeOf s0.data.toList=c:=by rw [←hh];exact hc
 have HFI:=Lib.hid (show∀W:World,Calls Tryz.prog 129 #[.string s0] W fun e w'=>e= .returned (.int .i64 c)∧Below W.heap.size W w' from fun W=>by
  have:=opsfind_any s0 W
  rw [ByteArray.toList_eq,hc'] at this
  exact this)
 have HFO:=Lib.hid (show∀W:World,Calls Tryz.prog 130 #[.int .i64 c] W fun e w'=>e= .returned (.tuple #[.string ⟨nm.toArray⟩, .string ⟨#[115]⟩])∧Below W.heap.size W w' from fun W=>by
  have:=opsform_any c W
  rw [hnm,hf] at this
  exact this)
 have HI5: -9223372036854775808≤c∧c≤9223372036854775807:=by
  have:=codeOf_range (ws.headD ⟨#[]⟩).data.toList
  rw [hc] at this
  omega
 have hd0:decide ((0:Int)≤c)=true:=by rw [decide_eq_true_eq];exact hc0
 have H:=Lib.hid hK
 have HV:=Lib.hid hV
 have HM:=Lib.hid hM
 have HW:=Lib.hid hw
 have HZ:=Lib.hid hz
 have HS:=Lib.hid hS
 have HMS:=Lib.hid hMS
 have HC:=Lib.hid hc
 have HNM:=Lib.hid hnm
 have HF:=Lib.hid hf
 have hkl:=hK.box.lt
 have hxl:=hM.box.lt
 have c12:=hK.box.cell 12 rfl
 rw [hV] at c12
 obtain⟨y1,y2,y3,y4,y5,y6,y7,y8,y9,y10,y11,y12⟩:=far kb w.heap.size hkl
 obtain⟨x1,x2,x3,x4,x5,x6,x7,x8,x9,x10,x11,x12⟩:=far b w.heap.size hb
 clear hK hV hM hw hz hS hMS hcc hs0 hh hc hc' hnm hf
 go_enter Tryz.func57,Tryz.ntmps57
 go_wp2_with (go_at_call 129;refine stop_here ?_)
 refine go_on ?_
 refine(HFI.out _).mono ?_
 rintro e w1 ⟨rfl,hb1⟩
 have B1:=Lib.hid ((((Below.refl w.heap.size w).alloc (Nat.le_refl _) (.cells #[.pointer (some ⟨kb,0,none⟩)] 63)).alloc (by simp) (.cells #[.pointer (some ⟨xb,0,none⟩)] 65)).trans (hb1.mono (by simp;omega)))
 have b11:=Lib.hid (show Bx w1 w.heap.size [.pointer (some ⟨kb,0,none⟩)] 63 from((bx_new w [.pointer (some ⟨kb,0,none⟩)] 63).below ((Below.refl _ _).alloc (Nat.le_refl _) (.cells #[.pointer (some ⟨xb,0,none⟩)] 65)) (by simp)).below hb1 (by simp;omega))
 have b41:=Lib.hid (show Bx w1 (w.heap.size+1) [.pointer (some ⟨xb,0,none⟩)] 65 from(bx_new_at (w.alloc (.cells #[.pointer (some ⟨kb,0,none⟩)] 63)) [.pointer (some ⟨xb,0,none⟩)] 65 (w.heap.size+1) (by simp)).below hb1 (by simp))
 have hz1:=hb1.size
 simp only [World.size_alloc] at hz1
 clear hb1 c12
 have d1:=b11.out.cell 0 rfl
 go_wp2_with (go_at_call 26;refine stop_here ?_)
 refine go_on ?_
 refine(must_yes kb _ σ.line w1 (B1.out.block kb hkl|>.trans H.out.box) rfl).mono ?_
 rintro e w1' ⟨rfl,rfl⟩
 go_wp2_with (go_at_call 130;refine stop_here ?_)
 refine go_on ?_
 refine(HFO.out _).mono ?_
 rintro e w2 ⟨rfl,hb2⟩
 have B2:=Lib.hid (B1.out.trans (hb2.mono (by omega)))
 have b12:=Lib.hid (b11.out.below hb2 b11.out.lt)
 have b42:=Lib.hid (b41.out.below hb2 b41.out.lt)
 have hz2:=hb2.size
 clear hb2 d1
 have HW2:=Lib.hid (HW.out)
 rcases Nat.lt_or_ge 1 cap with hcap|hcap
 ·go_wp2_with fail
  obtain⟨w3,hw3⟩: ∃W,W=(w2.alloc (.cells #[.slice (some ⟨b,off+1,none⟩) (ws.length - 1) (cap - 1)] 43)).alloc (.stringIter ⟨#[115]⟩ 0):=⟨_,rfl⟩
  have B3:=(B2.out.alloc (show w.heap.size≤w2.heap.size by omega) (.cells #[.slice (some ⟨b,off+1,none⟩) (ws.length - 1) (cap - 1)] 43)).alloc (by simp;omega) (.stringIter ⟨#[115]⟩ 0)
  have HB3:=(((Below.refl w2.heap.size w2).alloc (Nat.le_refl _) (.cells #[.slice (some ⟨b,off+1,none⟩) (ws.length - 1) (cap - 1)] 43)).alloc (by simp) (.stringIter ⟨#[115]⟩ 0))
  have HI0:=Lib.hid (show InS w ρ B kb xb w.heap.size (w.heap.size+1) w2.heap.size (w2.heap.size+1) ⟨#[115]⟩ 0 m ⟨σ,m.mv.code,m.jumps,ws.drop 1⟩ w3 from InS.start H.out HV.out HM.out (show Below w.heap.size w w3 by rw [hw3];exact B3) (HW.out.rest1 rfl hcap) (by rw [hw3];exact b12.out.below HB3 b12.out.lt) (by rw [hw3];exact b42.out.below HB3 b42.out.lt) (by rw [hw3];exact(bx_new w2 _ _).below ((Below.refl _ _).alloc (Nat.le_refl _) _) (by simp)) (by rw [hw3];exact iter_heap_at _ _ (by simp) _ _) (Nat.le_refl _) (by omega) (by omega) (by omega) (by omega) (by omega) (by omega) (by omega) (by omega))
  clear B3 HB3
  first|rw [←hw3] | (rw [show(w2.alloc (.cells #[.slice (some ⟨b,off+1,none⟩) (ws.length - 1) (cap - 1)] 43)).iter ⟨#[115]⟩ 0=w3 from hw3.symm])
  clear hw3
  refine wp_loop_rounds 2 ?_
  rw [rounds_succ]
  go_wp2_with (refine wpl_next (s:=⟨#[115]⟩) (pos:=0) rfl rfl rfl HI0.out.ib 115 (by rfl) (by omega) ?_;refine stop_here ?_)
  refine go_on ?_
  intro w3a hk hcl hfr hsz hh hbl
  have HI1:=Lib.hid (show InS w ρ B kb xb w.heap.size (w.heap.size+1) w2.heap.size (w2.heap.size+1) ⟨#[115]⟩ 1 m ⟨σ,m.mv.code,m.jumps,ws.drop 1⟩ w3a from HI0.out.turn hk hh hbl.out)
  clear hk hcl hfr hsz hh hbl
  go_wp2_with fail
  obtain⟨ρ',V',U',A8,n8,c8,e8⟩:=HI1.out.ex
  have d1:=HI1.out.b1.cell 0 rfl
  have d4:=HI1.out.b4.cell 0 rfl
  have d8:=e8.q.cell 0 rfl
  obtain rfl:n8=ws.length - 1:=by rw [e8.wd.len];simp
  obtain⟨Ac,cc,hcv⟩:=own_slice e8.mt.code.1
  have x6:w3a.cell? ⟨xb,6,none⟩=some (.slice Ac m.mv.code.length cc):=by rw [←show U'.cv= .slice Ac m.mv.code.length cc from hcv];exact e8.mt.box.cell 6 rfl
  clear e8 hcv
  rw [rounds_succ]
  by_cases hlen:ws.length - 1=1
  ·have hq:(((ws.length - 1:Nat):Int)==1)=true:=by rw [beq_iff_eq];omega
   have HLEN:=Lib.hid (show ws.length - 1=aWant [115] from hlen)
   clear hlen
   go_wp2_with (first| (refine wpl_next_end (s:=⟨#[115]⟩) (pos:=1) rfl rfl rfl HI1.out.ib (by decide) ?_) | (go_at_call 26;refine stop_here ?_))
   refine go_on ?_
   refine HI1.out.mustY.mono ?_
   rintro e w4 ⟨rfl,rfl⟩
   clear d1 d8
   go_wp2_with (go_at_call 132;refine stop_here ?_)
   refine go_on ?_
   refine(HI1.out.put1 c (by show m.mv.code.length≤999000;have:=HMS.out.code;omega) HI5).mono ?_
   rintro e w5 ⟨rfl,hi⟩
   have HI2:=Lib.hid (show InS w ρ B kb xb w.heap.size (w.heap.size+1) w2.heap.size (w2.heap.size+1) ⟨#[115]⟩ 1 m ⟨σ,m.mv.code++ [aByte c],m.jumps,ws.drop 1⟩ w5 from hi)
   clear hi d4 x6
   have hwl:w2.heap.size<w5.heap.size:=by obtain⟨ρ5,V5,U5,A5,n5,c5,e5⟩:=HI2.out.ex;exact e5.q.lt
   go_wp2_with fail
   have HI3:=Lib.hid (show InS w ρ B kb xb w.heap.size (w.heap.size+1) w2.heap.size w5.heap.size ⟨#[115]⟩ 0 m ⟨σ,m.mv.code++ [aByte c],m.jumps,ws.drop 1⟩ (w5.iter ⟨#[115]⟩ 0) from HI2.out.again ⟨#[115]⟩ w5.heap.size rfl)
   obtain⟨w6,hw6⟩: ∃W,W=w5.iter ⟨#[115]⟩ 0:=⟨_,rfl⟩
   rw [←hw6]
   replace HI3:Hid (InS w ρ B kb xb w.heap.size (w.heap.size+1) w2.heap.size w5.heap.size ⟨#[115]⟩ 0 m ⟨σ,m.mv.code++ [aByte c],m.jumps,ws.drop 1⟩ w6):=by rw [hw6];exact HI3
   clear hw6
   have hcl:(m.mv.code++ [aByte c]).length≤990000:=by have:=HMS.out.code;simp;omega
   have hpl:σ.c.pool.length≤990000:=by have:=HS.out.npool;omega
   refine wp_loop_rounds 2 ?_
   obtain⟨s,hr,hsm⟩:=want_one HLEN.out
   have hsz:=HZ.out s hsm
   rw [rounds_succ]
   go_wp2_with (refine wpl_next (s:=⟨#[115]⟩) (pos:=0) rfl rfl rfl HI3.out.ib 115 (by rfl) (by omega) ?_;refine stop_here ?_)
   refine go_on ?_
   intro w6a hk hcl hfr hsz hh hbl
   have HI4:=Lib.hid (show InS w ρ B kb xb w.heap.size (w.heap.size+1) w2.heap.size w5.heap.size ⟨#[115]⟩ 1 m ⟨σ,m.mv.code++ [aByte c],m.jumps,ws.drop 1⟩ w6a from HI3.out.turn hk hh hbl.out)
   clear hk hcl hfr hsz hh hbl
   go_wp2_with fail
   refine region_s _ w ρ B kb xb w.heap.size (w.heap.size+1) w2.heap.size w5.heap.size ⟨#[115]⟩ 1 m ⟨σ,m.mv.code++ [aByte c],m.jumps,ws.drop 1⟩ s [] w6a _ rfl rfl rfl rfl HI4.out hr hsz (by show(m.mv.code++ [aByte c]).length≤999000;omega) (by show σ.c.pool.length≤999000;omega) (fun _ _ _ _ _ h=>h) ?_ ?_
   ·intro b W' hdb hv hi
    exact(show _∧_ from⟨hdb,hi.wrong (by rw [instr_go HC.out hc0 HNM.out HF.out HLEN.out,aOpers,oper_s (x:=⟨σ,m.mv.code++ [aByte c],m.jumps,ws.drop 1⟩) hr,hv];rfl)⟩)
   ·intro b w7 v hzb hdb hkb hv hi
    have HI5:=Lib.hid (show InS w ρ B kb xb w.heap.size (w.heap.size+1) w2.heap.size w5.heap.size ⟨#[115]⟩ 1 m ⟨σ,m.mv.code++ [aByte c]++aBe2 v,m.jumps, []⟩ w7 from hi)
    have HV:=Lib.hid hv
    clear hi hv
    have hbe:=actA_chain _ b 152 6 (hk:=hkb) (hsz:=by rw [hzb];kernel_rfl) (hd:=hdb) (hln:=by show 158≤189;decide) (hn:=by decide)
    rw [show List.range 6= [0,1,2,3,4,5] from rfl] at hbe
    simp only [List.take_succ_cons,List.take_zero,List.drop_succ_cons,List.drop_zero,List.map_cons,List.map_nil,List.cons_append,List.nil_append,Nat.reduceAdd] at hbe
    rw [hbe]
    clear hbe hkb hzb hdb
    go_wp2_with fail
    rw [rounds_succ]
    go_wp2_with (refine wpl_next_end (s:=⟨#[115]⟩) (pos:=1) rfl rfl rfl HI5.out.ib (by decide) ?_)
    refine⟨rfl, .tuple #[],by simp [results,Tryz.results57], ?_⟩
    exact HI5.out.done (by rw [instr_go HC.out hc0 HNM.out HF.out HLEN.out,aOpers,oper_s (x:=⟨σ,m.mv.code++ [aByte c],m.jumps,ws.drop 1⟩) hr,HV.out];rfl)
  ·have hq:(((ws.length - 1:Nat):Int)==1)=false:=by rw [beq_eq_false_iff_ne];omega
   have HP:=Lib.hid (show σ.instr m ws=none from instr_len HC.out HF.out (show ws.length - 1≠aWant [115] from hlen))
   clear hlen
   go_wp2_with (first| (refine wpl_next_end (s:=⟨#[115]⟩) (pos:=1) rfl rfl rfl HI1.out.ib (by decide) ?_) | (go_at_call 26;refine stop_here ?_))
   refine go_on ?_
   refine HI1.out.mustN.mono ?_
   rintro e w4 ⟨rfl,rfl⟩
   go_wp2_with fail
   exact(show _∧_ from⟨rfl,HI1.out.wrong HP.out⟩)
 ·obtain rfl:cap=1:=by omega
  go_wp2_with fail
  obtain⟨w3,hw3⟩: ∃W,W=(w2.alloc (.cells #[.slice (some ⟨b,off,none⟩) 0 0] 43)).alloc (.stringIter ⟨#[115]⟩ 0):=⟨_,rfl⟩
  have B3:=(B2.out.alloc (show w.heap.size≤w2.heap.size by omega) (.cells #[.slice (some ⟨b,off,none⟩) 0 0] 43)).alloc (by simp;omega) (.stringIter ⟨#[115]⟩ 0)
  have HB3:=(((Below.refl w2.heap.size w2).alloc (Nat.le_refl _) (.cells #[.slice (some ⟨b,off,none⟩) 0 0] 43)).alloc (by simp) (.stringIter ⟨#[115]⟩ 0))
  have HI0:=Lib.hid (show InS w ρ B kb xb w.heap.size (w.heap.size+1) w2.heap.size (w2.heap.size+1) ⟨#[115]⟩ 0 m ⟨σ,m.mv.code,m.jumps,ws.drop 1⟩ w3 from InS.start H.out HV.out HM.out (show Below w.heap.size w w3 by rw [hw3];exact B3) (HW.out.rest0 (some ⟨b,off,none⟩) (Nat.le_refl _)) (by rw [hw3];exact b12.out.below HB3 b12.out.lt) (by rw [hw3];exact b42.out.below HB3 b42.out.lt) (by rw [hw3];exact(bx_new w2 _ _).below ((Below.refl _ _).alloc (Nat.le_refl _) _) (by simp)) (by rw [hw3];exact iter_heap_at _ _ (by simp) _ _) (Nat.le_refl _) (by omega) (by omega) (by omega) (by omega) (by omega) (by omega) (by omega) (by omega))
  clear B3 HB3
  first|rw [←hw3] | (rw [show(w2.alloc (.cells #[.slice (some ⟨b,off,none⟩) 0 0] 43)).iter ⟨#[115]⟩ 0=w3 from hw3.symm])
  clear hw3
  refine wp_loop_rounds 2 ?_
  rw [rounds_succ]
  go_wp2_with (refine wpl_next (s:=⟨#[115]⟩) (pos:=0) rfl rfl rfl HI0.out.ib 115 (by rfl) (by omega) ?_;refine stop_here ?_)
  refine go_on ?_
  intro w3a hk hcl hfr hsz hh hbl
  have HI1:=Lib.hid (show InS w ρ B kb xb w.heap.size (w.heap.size+1) w2.heap.size (w2.heap.size+1) ⟨#[115]⟩ 1 m ⟨σ,m.mv.code,m.jumps,ws.drop 1⟩ w3a from HI0.out.turn hk hh hbl.out)
  clear hk hcl hfr hsz hh hbl
  go_wp2_with fail
  obtain⟨ρ',V',U',A8,n8,c8,e8⟩:=HI1.out.ex
  have d1:=HI1.out.b1.cell 0 rfl
  have d4:=HI1.out.b4.cell 0 rfl
  have d8:=e8.q.cell 0 rfl
  obtain rfl:n8=ws.length - 1:=by rw [e8.wd.len];simp
  obtain⟨Ac,cc,hcv⟩:=own_slice e8.mt.code.1
  have x6:w3a.cell? ⟨xb,6,none⟩=some (.slice Ac m.mv.code.length cc):=by rw [←show U'.cv= .slice Ac m.mv.code.length cc from hcv];exact e8.mt.box.cell 6 rfl
  clear e8 hcv
  rw [rounds_succ]
  have hlen: ¬ws.length - 1=1:=by omega
  have hq:(((ws.length - 1:Nat):Int)==1)=false:=by rw [beq_eq_false_iff_ne];omega
  have HP:=Lib.hid (show σ.instr m ws=none from instr_len HC.out HF.out (show ws.length - 1≠aWant [115] from hlen))
  clear hlen
  go_wp2_with (first| (refine wpl_next_end (s:=⟨#[115]⟩) (pos:=1) rfl rfl rfl HI1.out.ib (by decide) ?_) | (go_at_call 26;refine stop_here ?_))
  refine go_on ?_
  refine HI1.out.mustN.mono ?_
  rintro e w4 ⟨rfl,rfl⟩
  go_wp2_with fail
  exact(show _∧_ from⟨rfl,HI1.out.wrong HP.out⟩)
theorem instr_w (ρ:Nat→Nat) (B kb xb:Nat) (σ:AsK) (V:MkV) (m:AsM) (U:MtV) (A:Option Addr) (n cap:Nat) (ws:List ByteArray) (w:World) (N:Nat) (hK:MkC w ρ B kb σ V) (hV:V.mv= .pointer (some ⟨xb,0,none⟩)) (hM:MtC w ρ B xb m U) (hw:WdA w (Un ρ) A n cap ws) (hz:SmW ws) (hn:0<n) (hS:AsSm σ N) (hMS:AsMSm m N) (hN:N≤900000)
  (c:Int) (hc:codeOf (ws.headD ⟨#[]⟩).data.toList=c) (hc0:0≤c) (nm:List UInt8) (hnm:(rowOf c).1=nm) (hf:(rowOf c).2= [117,98]) (hld:nm≠ [108,100,99]):
  Calls Tryz.prog 57 #[.pointer (some ⟨kb,0,none⟩), .slice A n cap] w (LPost [1,2,3,4,5,6,7,8,9,10,11,12,13] w ρ B kb σ.line (σ.instr m ws)):=by
 have hmf: ∀(fn:Fn) (first cap:Array Value) (w:World),(Instr.makeFunc fn first cap).run Tryz.prog w= .ok (.func fn first cap) w:=fun _ _ _ _=>rfl
 obtain⟨b,off,hA,hb,hub,hcc⟩:=hw.hat hn
 subst hA
 have hle:=hw.le
 have hmx:=hw.max
 have hnw:=hw.len
 subst hnw
 obtain⟨s0,hs0⟩: ∃s,ws[0]?=some s:=⟨_,List.getElem?_eq_getElem hn⟩
 have hh:ws.headD ⟨#[]⟩=s0:=by
  cases ws with
  |nil=>cases hs0
  |cons a l=>cases hs0;rfl
 have c0:=hcc 0 s0 hs0
 rw [Nat.add_zero] at c0
 have z0:=hz s0 (List.mem_of_getElem? hs0)
 have hc':codeOf s0.data.toList=c:=by rw [←hh];exact hc
 have HFI:=Lib.hid (show∀W:World,Calls Tryz.prog 129 #[.string s0] W fun e w'=>e= .returned (.int .i64 c)∧Below W.heap.size W w' from fun W=>by
  have:=opsfind_any s0 W
  rw [ByteArray.toList_eq,hc'] at this
  exact this)
 have HFO:=Lib.hid (show∀W:World,Calls Tryz.prog 130 #[.int .i64 c] W fun e w'=>e= .returned (.tuple #[.string ⟨nm.toArray⟩, .string ⟨#[117,98]⟩])∧Below W.heap.size W w' from fun W=>by
  have:=opsform_any c W
  rw [hnm,hf] at this
  exact this)
 have HI5: -9223372036854775808≤c∧c≤9223372036854775807:=by
  have:=codeOf_range (ws.headD ⟨#[]⟩).data.toList
  rw [hc] at this
  omega
 have hd0:decide ((0:Int)≤c)=true:=by rw [decide_eq_true_eq];exact hc0
 have H:=Lib.hid hK
 have HV:=Lib.hid hV
 have HM:=Lib.hid hM
 have HW:=Lib.hid hw
 have HZ:=Lib.hid hz
 have HS:=Lib.hid hS
 have HMS:=Lib.hid hMS
 have HC:=Lib.hid hc
 have HNM:=Lib.hid hnm
 have HF:=Lib.hid hf
 have hkl:=hK.box.lt
 have hxl:=hM.box.lt
 have c12:=hK.box.cell 12 rfl
 rw [hV] at c12
 obtain⟨y1,y2,y3,y4,y5,y6,y7,y8,y9,y10,y11,y12⟩:=far kb w.heap.size hkl
 obtain⟨x1,x2,x3,x4,x5,x6,x7,x8,x9,x10,x11,x12⟩:=far b w.heap.size hb
 clear hK hV hM hw hz hS hMS hcc hs0 hh hc hc' hnm hf
 go_enter Tryz.func57,Tryz.ntmps57
 go_wp2_with (go_at_call 129;refine stop_here ?_)
 refine go_on ?_
 refine(HFI.out _).mono ?_
 rintro e w1 ⟨rfl,hb1⟩
 have B1:=Lib.hid ((((Below.refl w.heap.size w).alloc (Nat.le_refl _) (.cells #[.pointer (some ⟨kb,0,none⟩)] 63)).alloc (by simp) (.cells #[.pointer (some ⟨xb,0,none⟩)] 65)).trans (hb1.mono (by simp;omega)))
 have b11:=Lib.hid (show Bx w1 w.heap.size [.pointer (some ⟨kb,0,none⟩)] 63 from((bx_new w [.pointer (some ⟨kb,0,none⟩)] 63).below ((Below.refl _ _).alloc (Nat.le_refl _) (.cells #[.pointer (some ⟨xb,0,none⟩)] 65)) (by simp)).below hb1 (by simp;omega))
 have b41:=Lib.hid (show Bx w1 (w.heap.size+1) [.pointer (some ⟨xb,0,none⟩)] 65 from(bx_new_at (w.alloc (.cells #[.pointer (some ⟨kb,0,none⟩)] 63)) [.pointer (some ⟨xb,0,none⟩)] 65 (w.heap.size+1) (by simp)).below hb1 (by simp))
 have hz1:=hb1.size
 simp only [World.size_alloc] at hz1
 clear hb1 c12
 have d1:=b11.out.cell 0 rfl
 go_wp2_with (go_at_call 26;refine stop_here ?_)
 refine go_on ?_
 refine(must_yes kb _ σ.line w1 (B1.out.block kb hkl|>.trans H.out.box) rfl).mono ?_
 rintro e w1' ⟨rfl,rfl⟩
 go_wp2_with (go_at_call 130;refine stop_here ?_)
 refine go_on ?_
 refine(HFO.out _).mono ?_
 rintro e w2 ⟨rfl,hb2⟩
 have B2:=Lib.hid (B1.out.trans (hb2.mono (by omega)))
 have b12:=Lib.hid (b11.out.below hb2 b11.out.lt)
 have b42:=Lib.hid (b41.out.below hb2 b41.out.lt)
 have hz2:=hb2.size
 clear hb2 d1
 have HW2:=Lib.hid (HW.out)
 rcases Nat.lt_or_ge 1 cap with hcap|hcap
 ·go_wp2_with fail
  obtain⟨w3,hw3⟩: ∃W,W=(w2.alloc (.cells #[.slice (some ⟨b,off+1,none⟩) (ws.length - 1) (cap - 1)] 43)).alloc (.stringIter ⟨#[117,98]⟩ 0):=⟨_,rfl⟩
  have B3:=(B2.out.alloc (show w.heap.size≤w2.heap.size by omega) (.cells #[.slice (some ⟨b,off+1,none⟩) (ws.length - 1) (cap - 1)] 43)).alloc (by simp;omega) (.stringIter ⟨#[117,98]⟩ 0)
  have HB3:=(((Below.refl w2.heap.size w2).alloc (Nat.le_refl _) (.cells #[.slice (some ⟨b,off+1,none⟩) (ws.length - 1) (cap - 1)] 43)).alloc (by simp) (.stringIter ⟨#[117,98]⟩ 0))
  have HI0:=Lib.hid (show InS w ρ B kb xb w.heap.size (w.heap.size+1) w2.heap.size (w2.heap.size+1) ⟨#[117,98]⟩ 0 m ⟨σ,m.mv.code,m.jumps,ws.drop 1⟩ w3 from InS.start H.out HV.out HM.out (show Below w.heap.size w w3 by rw [hw3];exact B3) (HW.out.rest1 rfl hcap) (by rw [hw3];exact b12.out.below HB3 b12.out.lt) (by rw [hw3];exact b42.out.below HB3 b42.out.lt) (by rw [hw3];exact(bx_new w2 _ _).below ((Below.refl _ _).alloc (Nat.le_refl _) _) (by simp)) (by rw [hw3];exact iter_heap_at _ _ (by simp) _ _) (Nat.le_refl _) (by omega) (by omega) (by omega) (by omega) (by omega) (by omega) (by omega) (by omega))
  clear B3 HB3
  first|rw [←hw3] | (rw [show(w2.alloc (.cells #[.slice (some ⟨b,off+1,none⟩) (ws.length - 1) (cap - 1)] 43)).iter ⟨#[117,98]⟩ 0=w3 from hw3.symm])
  clear hw3
  refine wp_loop_rounds 3 ?_
  rw [rounds_succ]
  go_wp2_with (refine wpl_next (s:=⟨#[117,98]⟩) (pos:=0) rfl rfl rfl HI0.out.ib 117 (by rfl) (by omega) ?_;refine stop_here ?_)
  refine go_on ?_
  intro w3a hk hcl hfr hsz hh hbl
  have HI1:=Lib.hid (show InS w ρ B kb xb w.heap.size (w.heap.size+1) w2.heap.size (w2.heap.size+1) ⟨#[117,98]⟩ 1 m ⟨σ,m.mv.code,m.jumps,ws.drop 1⟩ w3a from HI0.out.turn hk hh hbl.out)
  clear hk hcl hfr hsz hh hbl
  go_wp2_with fail
  rw [rounds_succ]
  go_wp2_with (refine wpl_next (s:=⟨#[117,98]⟩) (pos:=1) rfl rfl rfl HI1.out.ib 98 (by rfl) (by omega) ?_;refine stop_here ?_)
  refine go_on ?_
  intro w3b hk hcl hfr hsz hh hbl
  have HI2:=Lib.hid (show InS w ρ B kb xb w.heap.size (w.heap.size+1) w2.heap.size (w2.heap.size+1) ⟨#[117,98]⟩ 2 m ⟨σ,m.mv.code,m.jumps,ws.drop 1⟩ w3b from HI1.out.turn hk hh hbl.out)
  clear hk hcl hfr hsz hh hbl
  go_wp2_with fail
  obtain⟨ρ',V',U',A8,n8,c8,e8⟩:=HI2.out.ex
  have d1:=HI2.out.b1.cell 0 rfl
  have d4:=HI2.out.b4.cell 0 rfl
  have d8:=e8.q.cell 0 rfl
  obtain rfl:n8=ws.length - 1:=by rw [e8.wd.len];simp
  obtain⟨Ac,cc,hcv⟩:=own_slice e8.mt.code.1
  have x6:w3b.cell? ⟨xb,6,none⟩=some (.slice Ac m.mv.code.length cc):=by rw [←show U'.cv= .slice Ac m.mv.code.length cc from hcv];exact e8.mt.box.cell 6 rfl
  clear e8 hcv
  rw [rounds_succ]
  by_cases hlen:ws.length - 1=2
  ·have hq:(((ws.length - 1:Nat):Int)==2)=true:=by rw [beq_iff_eq];omega
   have HLEN:=Lib.hid (show ws.length - 1=aWant [117,98] from hlen)
   clear hlen
   go_wp2_with (first| (refine wpl_next_end (s:=⟨#[117,98]⟩) (pos:=2) rfl rfl rfl HI2.out.ib (by decide) ?_) | (go_at_call 26;refine stop_here ?_))
   refine go_on ?_
   refine HI2.out.mustY.mono ?_
   rintro e w4 ⟨rfl,rfl⟩
   clear d1 d8
   go_wp2_with (go_at_call 132;refine stop_here ?_)
   refine go_on ?_
   refine(HI2.out.put1 c (by show m.mv.code.length≤999000;have:=HMS.out.code;omega) HI5).mono ?_
   rintro e w5 ⟨rfl,hi⟩
   have HI3:=Lib.hid (show InS w ρ B kb xb w.heap.size (w.heap.size+1) w2.heap.size (w2.heap.size+1) ⟨#[117,98]⟩ 2 m ⟨σ,m.mv.code++ [aByte c],m.jumps,ws.drop 1⟩ w5 from hi)
   clear hi d4 x6
   have hwl:w2.heap.size<w5.heap.size:=by obtain⟨ρ5,V5,U5,A5,n5,c5,e5⟩:=HI3.out.ex;exact e5.q.lt
   go_wp2_with fail
   have HI4:=Lib.hid (show InS w ρ B kb xb w.heap.size (w.heap.size+1) w2.heap.size w5.heap.size ⟨#[117,98]⟩ 0 m ⟨σ,m.mv.code++ [aByte c],m.jumps,ws.drop 1⟩ (w5.iter ⟨#[117,98]⟩ 0) from HI3.out.again ⟨#[117,98]⟩ w5.heap.size rfl)
   obtain⟨w6,hw6⟩: ∃W,W=w5.iter ⟨#[117,98]⟩ 0:=⟨_,rfl⟩
   rw [←hw6]
   replace HI4:Hid (InS w ρ B kb xb w.heap.size (w.heap.size+1) w2.heap.size w5.heap.size ⟨#[117,98]⟩ 0 m ⟨σ,m.mv.code++ [aByte c],m.jumps,ws.drop 1⟩ w6):=by rw [hw6];exact HI4
   clear hw6
   have hcl:(m.mv.code++ [aByte c]).length≤990000:=by have:=HMS.out.code;simp;omega
   have hpl:σ.c.pool.length≤990000:=by have:=HS.out.npool;omega
   refine wp_loop_rounds 3 ?_
   obtain⟨s,s2,hr,hsm,hsm2⟩:=want_two HLEN.out
   have hsz:=HZ.out s hsm
   have hsz2:=HZ.out s2 hsm2
   have hl2:(nm== [108,100,99])=false:=by simpa using hld
   rw [rounds_succ]
   go_wp2_with (refine wpl_next (s:=⟨#[117,98]⟩) (pos:=0) rfl rfl rfl HI4.out.ib 117 (by rfl) (by omega) ?_;refine stop_here ?_)
   refine go_on ?_
   intro w6a hk hcl hfr hsz hh hbl
   have HI5:=Lib.hid (show InS w ρ B kb xb w.heap.size (w.heap.size+1) w2.heap.size w5.heap.size ⟨#[117,98]⟩ 1 m ⟨σ,m.mv.code++ [aByte c],m.jumps,ws.drop 1⟩ w6a from HI4.out.turn hk hh hbl.out)
   clear hk hcl hfr hsz hh hbl
   go_wp2_with fail
   refine region_u _ w ρ B kb xb w.heap.size (w.heap.size+1) w2.heap.size w5.heap.size ⟨#[117,98]⟩ 1 m ⟨σ,m.mv.code++ [aByte c],m.jumps,ws.drop 1⟩ s [s2] w6a _ rfl rfl rfl rfl HI5.out hr hsz (by show(m.mv.code++ [aByte c]).length≤999000;omega) (by show σ.c.pool.length≤999000;omega) (fun _ _ _ _ _ h=>h) ?_ ?_
   ·intro b W' hdb hv hi
    exact(show _∧_ from⟨hdb,hi.wrong (by rw [instr_go HC.out hc0 HNM.out HF.out HLEN.out,aOpers,oper_u (x:=⟨σ,m.mv.code++ [aByte c],m.jumps,ws.drop 1⟩) hr hld,hv];rfl)⟩)
   ·intro b w7 v hzb hdb hkb hv hi
    have HI6:=Lib.hid (show InS w ρ B kb xb w.heap.size (w.heap.size+1) w2.heap.size w5.heap.size ⟨#[117,98]⟩ 1 m ⟨σ,m.mv.code++ [aByte c]++ [aByte v],m.jumps, [s2]⟩ w7 from hi)
    have HV:=Lib.hid hv
    clear hi hv
    have hbe:=actA_chain _ b 131 6 (hk:=hkb) (hsz:=by rw [hzb];kernel_rfl) (hd:=hdb) (hln:=by show 137≤189;decide) (hn:=by decide)
    rw [show List.range 6= [0,1,2,3,4,5] from rfl] at hbe
    simp only [List.take_succ_cons,List.take_zero,List.drop_succ_cons,List.drop_zero,List.map_cons,List.map_nil,List.cons_append,List.nil_append,Nat.reduceAdd] at hbe
    rw [hbe]
    clear hbe hkb hzb hdb
    go_wp2_with fail
    rw [rounds_succ]
    go_wp2_with (refine wpl_next (s:=⟨#[117,98]⟩) (pos:=1) rfl rfl rfl HI6.out.ib 98 (by rfl) (by omega) ?_;refine stop_here ?_)
    refine go_on ?_
    intro w7a hk hcl hfr hsz hh hbl
    have HI7:=Lib.hid (show InS w ρ B kb xb w.heap.size (w.heap.size+1) w2.heap.size w5.heap.size ⟨#[117,98]⟩ 2 m ⟨σ,m.mv.code++ [aByte c]++ [aByte v],m.jumps, [s2]⟩ w7a from HI6.out.turn hk hh hbl.out)
    clear hk hcl hfr hsz hh hbl
    go_wp2_with fail
    refine region_b _ w ρ B kb xb w.heap.size (w.heap.size+1) w2.heap.size w5.heap.size ⟨#[117,98]⟩ 2 m ⟨σ,m.mv.code++ [aByte c]++ [aByte v],m.jumps, [s2]⟩ s2 [] w7a _ rfl rfl rfl rfl HI7.out rfl hsz2 (by show(m.mv.code++ [aByte c]++ [aByte v]).length≤999000;rw [List.length_append];simp only [List.length_cons,List.length_nil];omega) (by show σ.c.pool.length≤999000;omega) (fun _ _ _ _ _ h=>h) ?_ ?_
    ·intro b W' hdb hv hi
     exact(show _∧_ from⟨hdb,hi.wrong (by rw [instr_go HC.out hc0 HNM.out HF.out HLEN.out,aOpers,oper_u (x:=⟨σ,m.mv.code++ [aByte c],m.jumps,ws.drop 1⟩) hr hld,HV.out,Option.map_some,Option.bind_some,aOpers,oper_b (x:=⟨σ,m.mv.code++ [aByte c]++ [aByte v],m.jumps, [s2]⟩) (s:=s2) (r:= []) rfl,hv];rfl)⟩)
    ·intro b w8 v2 hzb hdb hkb hv hi
     have HI8:=Lib.hid (show InS w ρ B kb xb w.heap.size (w.heap.size+1) w2.heap.size w5.heap.size ⟨#[117,98]⟩ 2 m ⟨σ,m.mv.code++ [aByte c]++ [aByte v]++ [aByte v2],m.jumps, []⟩ w8 from hi)
     have HV2:=Lib.hid hv
     clear hi hv
     have hbe:=actA_chain _ b 121 6 (hk:=hkb) (hsz:=by rw [hzb];kernel_rfl) (hd:=hdb) (hln:=by show 127≤189;decide) (hn:=by decide)
     rw [show List.range 6= [0,1,2,3,4,5] from rfl] at hbe
     simp only [List.take_succ_cons,List.take_zero,List.drop_succ_cons,List.drop_zero,List.map_cons,List.map_nil,List.cons_append,List.nil_append,Nat.reduceAdd] at hbe
     rw [hbe]
     clear hbe hkb hzb hdb
     go_wp2_with fail
     rw [rounds_succ]
     go_wp2_with (refine wpl_next_end (s:=⟨#[117,98]⟩) (pos:=2) rfl rfl rfl HI8.out.ib (by decide) ?_)
     refine⟨rfl, .tuple #[],by simp [results,Tryz.results57], ?_⟩
     exact HI8.out.done (by rw [instr_go HC.out hc0 HNM.out HF.out HLEN.out,aOpers,oper_u (x:=⟨σ,m.mv.code++ [aByte c],m.jumps,ws.drop 1⟩) hr hld,HV.out,Option.map_some,Option.bind_some,aOpers,oper_b (x:=⟨σ,m.mv.code++ [aByte c]++ [aByte v],m.jumps, [s2]⟩) (s:=s2) (r:= []) rfl,HV2.out];rfl)
  ·have hq:(((ws.length - 1:Nat):Int)==2)=false:=by rw [beq_eq_false_iff_ne];omega
   have HP:=Lib.hid (show σ.instr m ws=none from instr_len HC.out HF.out (show ws.length - 1≠aWant [117,98] from hlen))
   clear hlen
   go_wp2_with (first| (refine wpl_next_end (s:=⟨#[117,98]⟩) (pos:=2) rfl rfl rfl HI2.out.ib (by decide) ?_) | (go_at_call 26;refine stop_here ?_))
   refine go_on ?_
   refine HI2.out.mustN.mono ?_
   rintro e w4 ⟨rfl,rfl⟩
   go_wp2_with fail
   exact(show _∧_ from⟨rfl,HI2.out.wrong HP.out⟩)
 ·obtain rfl:cap=1:=by omega
  go_wp2_with fail
  obtain⟨w3,hw3⟩: ∃W,W=(w2.alloc (.cells #[.slice (some ⟨b,off,none⟩) 0 0] 43)).alloc (.stringIter ⟨#[117,98]⟩ 0):=⟨_,rfl⟩
  have B3:=(B2.out.alloc (show w.heap.size≤w2.heap.size by omega) (.cells #[.slice (some ⟨b,off,none⟩) 0 0] 43)).alloc (by simp;omega) (.stringIter ⟨#[117,98]⟩ 0)
  have HB3:=(((Below.refl w2.heap.size w2).alloc (Nat.le_refl _) (.cells #[.slice (some ⟨b,off,none⟩) 0 0] 43)).alloc (by simp) (.stringIter ⟨#[117,98]⟩ 0))
  have HI0:=Lib.hid (show InS w ρ B kb xb w.heap.size (w.heap.size+1) w2.heap.size (w2.heap.size+1) ⟨#[117,98]⟩ 0 m ⟨σ,m.mv.code,m.jumps,ws.drop 1⟩ w3 from InS.start H.out HV.out HM.out (show Below w.heap.size w w3 by rw [hw3];exact B3) (HW.out.rest0 (some ⟨b,off,none⟩) (Nat.le_refl _)) (by rw [hw3];exact b12.out.below HB3 b12.out.lt) (by rw [hw3];exact b42.out.below HB3 b42.out.lt) (by rw [hw3];exact(bx_new w2 _ _).below ((Below.refl _ _).alloc (Nat.le_refl _) _) (by simp)) (by rw [hw3];exact iter_heap_at _ _ (by simp) _ _) (Nat.le_refl _) (by omega) (by omega) (by omega) (by omega) (by omega) (by omega) (by omega) (by omega))
  clear B3 HB3
  first|rw [←hw3] | (rw [show(w2.alloc (.cells #[.slice (some ⟨b,off,none⟩) 0 0] 43)).iter ⟨#[117,98]⟩ 0=w3 from hw3.symm])
  clear hw3
  refine wp_loop_rounds 3 ?_
  rw [rounds_succ]
  go_wp2_with (refine wpl_next (s:=⟨#[117,98]⟩) (pos:=0) rfl rfl rfl HI0.out.ib 117 (by rfl) (by omega) ?_;refine stop_here ?_)
  refine go_on ?_
  intro w3a hk hcl hfr hsz hh hbl
  have HI1:=Lib.hid (show InS w ρ B kb xb w.heap.size (w.heap.size+1) w2.heap.size (w2.heap.size+1) ⟨#[117,98]⟩ 1 m ⟨σ,m.mv.code,m.jumps,ws.drop 1⟩ w3a from HI0.out.turn hk hh hbl.out)
  clear hk hcl hfr hsz hh hbl
  go_wp2_with fail
  rw [rounds_succ]
  go_wp2_with (refine wpl_next (s:=⟨#[117,98]⟩) (pos:=1) rfl rfl rfl HI1.out.ib 98 (by rfl) (by omega) ?_;refine stop_here ?_)
  refine go_on ?_
  intro w3b hk hcl hfr hsz hh hbl
  have HI2:=Lib.hid (show InS w ρ B kb xb w.heap.size (w.heap.size+1) w2.heap.size (w2.heap.size+1) ⟨#[117,98]⟩ 2 m ⟨σ,m.mv.code,m.jumps,ws.drop 1⟩ w3b from HI1.out.turn hk hh hbl.out)
  clear hk hcl hfr hsz hh hbl
  go_wp2_with fail
  obtain⟨ρ',V',U',A8,n8,c8,e8⟩:=HI2.out.ex
  have d1:=HI2.out.b1.cell 0 rfl
  have d4:=HI2.out.b4.cell 0 rfl
  have d8:=e8.q.cell 0 rfl
  obtain rfl:n8=ws.length - 1:=by rw [e8.wd.len];simp
  obtain⟨Ac,cc,hcv⟩:=own_slice e8.mt.code.1
  have x6:w3b.cell? ⟨xb,6,none⟩=some (.slice Ac m.mv.code.length cc):=by rw [←show U'.cv= .slice Ac m.mv.code.length cc from hcv];exact e8.mt.box.cell 6 rfl
  clear e8 hcv
  rw [rounds_succ]
  have hlen: ¬ws.length - 1=2:=by omega
  have hq:(((ws.length - 1:Nat):Int)==2)=false:=by rw [beq_eq_false_iff_ne];omega
  have HP:=Lib.hid (show σ.instr m ws=none from instr_len HC.out HF.out (show ws.length - 1≠aWant [117,98] from hlen))
  clear hlen
  go_wp2_with (first| (refine wpl_next_end (s:=⟨#[117,98]⟩) (pos:=2) rfl rfl rfl HI2.out.ib (by decide) ?_) | (go_at_call 26;refine stop_here ?_))
  refine go_on ?_
  refine HI2.out.mustN.mono ?_
  rintro e w4 ⟨rfl,rfl⟩
  go_wp2_with fail
  exact(show _∧_ from⟨rfl,HI2.out.wrong HP.out⟩)
theorem instr_j (ρ:Nat→Nat) (B kb xb:Nat) (σ:AsK) (V:MkV) (m:AsM) (U:MtV) (A:Option Addr) (n cap:Nat) (ws:List ByteArray) (w:World) (N:Nat) (hK:MkC w ρ B kb σ V) (hV:V.mv= .pointer (some ⟨xb,0,none⟩)) (hM:MtC w ρ B xb m U) (hw:WdA w (Un ρ) A n cap ws) (hz:SmW ws) (hn:0<n) (hS:AsSm σ N) (hMS:AsMSm m N) (hN:N≤900000)
  (c:Int) (hc:codeOf (ws.headD ⟨#[]⟩).data.toList=c) (hc0:0≤c) (nm:List UInt8) (hnm:(rowOf c).1=nm) (hf:(rowOf c).2= [106]):
  Calls Tryz.prog 57 #[.pointer (some ⟨kb,0,none⟩), .slice A n cap] w (LPost [1,2,3,4,5,6,7,8,9,10,11,12,13] w ρ B kb σ.line (σ.instr m ws)):=by
 have hmf: ∀(fn:Fn) (first cap:Array Value) (w:World),(Instr.makeFunc fn first cap).run Tryz.prog w= .ok (.func fn first cap) w:=fun _ _ _ _=>rfl
 obtain⟨b,off,hA,hb,hub,hcc⟩:=hw.hat hn
 subst hA
 have hle:=hw.le
 have hmx:=hw.max
 have hnw:=hw.len
 subst hnw
 obtain⟨s0,hs0⟩: ∃s,ws[0]?=some s:=⟨_,List.getElem?_eq_getElem hn⟩
 have hh:ws.headD ⟨#[]⟩=s0:=by
  cases ws with
  |nil=>cases hs0
  |cons a l=>cases hs0;rfl
 have c0:=hcc 0 s0 hs0
 rw [Nat.add_zero] at c0
 have z0:=hz s0 (List.mem_of_getElem? hs0)
 have hc':codeOf s0.data.toList=c:=by rw [←hh];exact hc
 have HFI:=Lib.hid (show∀W:World,Calls Tryz.prog 129 #[.string s0] W fun e w'=>e= .returned (.int .i64 c)∧Below W.heap.size W w' from fun W=>by
  have:=opsfind_any s0 W
  rw [ByteArray.toList_eq,hc'] at this
  exact this)
 have HFO:=Lib.hid (show∀W:World,Calls Tryz.prog 130 #[.int .i64 c] W fun e w'=>e= .returned (.tuple #[.string ⟨nm.toArray⟩, .string ⟨#[106]⟩])∧Below W.heap.size W w' from fun W=>by
  have:=opsform_any c W
  rw [hnm,hf] at this
  exact this)
 have HI5: -9223372036854775808≤c∧c≤9223372036854775807:=by
  have:=codeOf_range (ws.headD ⟨#[]⟩).data.toList
  rw [hc] at this
  omega
 have hd0:decide ((0:Int)≤c)=true:=by rw [decide_eq_true_eq];exact hc0
 have H:=Lib.hid hK
 have HV:=Lib.hid hV
 have HM:=Lib.hid hM
 have HW:=Lib.hid hw
 have HZ:=Lib.hid hz
 have HS:=Lib.hid hS
 have HMS:=Lib.hid hMS
 have HC:=Lib.hid hc
 have HNM:=Lib.hid hnm
 have HF:=Lib.hid hf
 have hkl:=hK.box.lt
 have hxl:=hM.box.lt
 have c12:=hK.box.cell 12 rfl
 rw [hV] at c12
 obtain⟨y1,y2,y3,y4,y5,y6,y7,y8,y9,y10,y11,y12⟩:=far kb w.heap.size hkl
 obtain⟨x1,x2,x3,x4,x5,x6,x7,x8,x9,x10,x11,x12⟩:=far b w.heap.size hb
 clear hK hV hM hw hz hS hMS hcc hs0 hh hc hc' hnm hf
 go_enter Tryz.func57,Tryz.ntmps57
 go_wp2_with (go_at_call 129;refine stop_here ?_)
 refine go_on ?_
 refine(HFI.out _).mono ?_
 rintro e w1 ⟨rfl,hb1⟩
 have B1:=Lib.hid ((((Below.refl w.heap.size w).alloc (Nat.le_refl _) (.cells #[.pointer (some ⟨kb,0,none⟩)] 63)).alloc (by simp) (.cells #[.pointer (some ⟨xb,0,none⟩)] 65)).trans (hb1.mono (by simp;omega)))
 have b11:=Lib.hid (show Bx w1 w.heap.size [.pointer (some ⟨kb,0,none⟩)] 63 from((bx_new w [.pointer (some ⟨kb,0,none⟩)] 63).below ((Below.refl _ _).alloc (Nat.le_refl _) (.cells #[.pointer (some ⟨xb,0,none⟩)] 65)) (by simp)).below hb1 (by simp;omega))
 have b41:=Lib.hid (show Bx w1 (w.heap.size+1) [.pointer (some ⟨xb,0,none⟩)] 65 from(bx_new_at (w.alloc (.cells #[.pointer (some ⟨kb,0,none⟩)] 63)) [.pointer (some ⟨xb,0,none⟩)] 65 (w.heap.size+1) (by simp)).below hb1 (by simp))
 have hz1:=hb1.size
 simp only [World.size_alloc] at hz1
 clear hb1 c12
 have d1:=b11.out.cell 0 rfl
 go_wp2_with (go_at_call 26;refine stop_here ?_)
 refine go_on ?_
 refine(must_yes kb _ σ.line w1 (B1.out.block kb hkl|>.trans H.out.box) rfl).mono ?_
 rintro e w1' ⟨rfl,rfl⟩
 go_wp2_with (go_at_call 130;refine stop_here ?_)
 refine go_on ?_
 refine(HFO.out _).mono ?_
 rintro e w2 ⟨rfl,hb2⟩
 have B2:=Lib.hid (B1.out.trans (hb2.mono (by omega)))
 have b12:=Lib.hid (b11.out.below hb2 b11.out.lt)
 have b42:=Lib.hid (b41.out.below hb2 b41.out.lt)
 have hz2:=hb2.size
 clear hb2 d1
 have HW2:=Lib.hid (HW.out)
 rcases Nat.lt_or_ge 1 cap with hcap|hcap
 ·go_wp2_with fail
  obtain⟨w3,hw3⟩: ∃W,W=(w2.alloc (.cells #[.slice (some ⟨b,off+1,none⟩) (ws.length - 1) (cap - 1)] 43)).alloc (.stringIter ⟨#[106]⟩ 0):=⟨_,rfl⟩
  have B3:=(B2.out.alloc (show w.heap.size≤w2.heap.size by omega) (.cells #[.slice (some ⟨b,off+1,none⟩) (ws.length - 1) (cap - 1)] 43)).alloc (by simp;omega) (.stringIter ⟨#[106]⟩ 0)
  have HB3:=(((Below.refl w2.heap.size w2).alloc (Nat.le_refl _) (.cells #[.slice (some ⟨b,off+1,none⟩) (ws.length - 1) (cap - 1)] 43)).alloc (by simp) (.stringIter ⟨#[106]⟩ 0))
  have HI0:=Lib.hid (show InS w ρ B kb xb w.heap.size (w.heap.size+1) w2.heap.size (w2.heap.size+1) ⟨#[106]⟩ 0 m ⟨σ,m.mv.code,m.jumps,ws.drop 1⟩ w3 from InS.start H.out HV.out HM.out (show Below w.heap.size w w3 by rw [hw3];exact B3) (HW.out.rest1 rfl hcap) (by rw [hw3];exact b12.out.below HB3 b12.out.lt) (by rw [hw3];exact b42.out.below HB3 b42.out.lt) (by rw [hw3];exact(bx_new w2 _ _).below ((Below.refl _ _).alloc (Nat.le_refl _) _) (by simp)) (by rw [hw3];exact iter_heap_at _ _ (by simp) _ _) (Nat.le_refl _) (by omega) (by omega) (by omega) (by omega) (by omega) (by omega) (by omega) (by omega))
  clear B3 HB3
  first|rw [←hw3] | (rw [show(w2.alloc (.cells #[.slice (some ⟨b,off+1,none⟩) (ws.length - 1) (cap - 1)] 43)).iter ⟨#[106]⟩ 0=w3 from hw3.symm])
  clear hw3
  refine wp_loop_rounds 2 ?_
  rw [rounds_succ]
  go_wp2_with (refine wpl_next (s:=⟨#[106]⟩) (pos:=0) rfl rfl rfl HI0.out.ib 106 (by rfl) (by omega) ?_;refine stop_here ?_)
  refine go_on ?_
  intro w3a hk hcl hfr hsz hh hbl
  have HI1:=Lib.hid (show InS w ρ B kb xb w.heap.size (w.heap.size+1) w2.heap.size (w2.heap.size+1) ⟨#[106]⟩ 1 m ⟨σ,m.mv.code,m.jumps,ws.drop 1⟩ w3a from HI0.out.turn hk hh hbl.out)
  clear hk hcl hfr hsz hh hbl
  go_wp2_with fail
  obtain⟨ρ',V',U',A8,n8,c8,e8⟩:=HI1.out.ex
  have d1:=HI1.out.b1.cell 0 rfl
  have d4:=HI1.out.b4.cell 0 rfl
  have d8:=e8.q.cell 0 rfl
  obtain rfl:n8=ws.length - 1:=by rw [e8.wd.len];simp
  obtain⟨Ac,cc,hcv⟩:=own_slice e8.mt.code.1
  have x6:w3a.cell? ⟨xb,6,none⟩=some (.slice Ac m.mv.code.length cc):=by rw [←show U'.cv= .slice Ac m.mv.code.length cc from hcv];exact e8.mt.box.cell 6 rfl
  clear e8 hcv
  rw [rounds_succ]
  by_cases hlen:ws.length - 1=1
  ·have hq:(((ws.length - 1:Nat):Int)==1)=true:=by rw [beq_iff_eq];omega
   have HLEN:=Lib.hid (show ws.length - 1=aWant [106] from hlen)
   clear hlen
   go_wp2_with (first| (refine wpl_next_end (s:=⟨#[106]⟩) (pos:=1) rfl rfl rfl HI1.out.ib (by decide) ?_) | (go_at_call 26;refine stop_here ?_))
   refine go_on ?_
   refine HI1.out.mustY.mono ?_
   rintro e w4 ⟨rfl,rfl⟩
   clear d1 d8
   go_wp2_with (go_at_call 132;refine stop_here ?_)
   refine go_on ?_
   refine(HI1.out.put1 c (by show m.mv.code.length≤999000;have:=HMS.out.code;omega) HI5).mono ?_
   rintro e w5 ⟨rfl,hi⟩
   have HI2:=Lib.hid (show InS w ρ B kb xb w.heap.size (w.heap.size+1) w2.heap.size (w2.heap.size+1) ⟨#[106]⟩ 1 m ⟨σ,m.mv.code++ [aByte c],m.jumps,ws.drop 1⟩ w5 from hi)
   clear hi d4 x6
   have hwl:w2.heap.size<w5.heap.size:=by obtain⟨ρ5,V5,U5,A5,n5,c5,e5⟩:=HI2.out.ex;exact e5.q.lt
   go_wp2_with fail
   have HI3:=Lib.hid (show InS w ρ B kb xb w.heap.size (w.heap.size+1) w2.heap.size w5.heap.size ⟨#[106]⟩ 0 m ⟨σ,m.mv.code++ [aByte c],m.jumps,ws.drop 1⟩ (w5.iter ⟨#[106]⟩ 0) from HI2.out.again ⟨#[106]⟩ w5.heap.size rfl)
   obtain⟨w6,hw6⟩: ∃W,W=w5.iter ⟨#[106]⟩ 0:=⟨_,rfl⟩
   rw [←hw6]
   replace HI3:Hid (InS w ρ B kb xb w.heap.size (w.heap.size+1) w2.heap.size w5.heap.size ⟨#[106]⟩ 0 m ⟨σ,m.mv.code++ [aByte c],m.jumps,ws.drop 1⟩ w6):=by rw [hw6];exact HI3
   clear hw6
   have hcl:(m.mv.code++ [aByte c]).length≤990000:=by have:=HMS.out.code;simp;omega
   have hpl:σ.c.pool.length≤990000:=by have:=HS.out.npool;omega
   refine wp_loop_rounds 2 ?_
   obtain⟨s,hr,hsm⟩:=want_one HLEN.out
   have hsz:=HZ.out s hsm
   have hjl:=HMS.out.jumps
   rw [rounds_succ]
   go_wp2_with (refine wpl_next (s:=⟨#[106]⟩) (pos:=0) rfl rfl rfl HI3.out.ib 106 (by rfl) (by omega) ?_;refine stop_here ?_)
   refine go_on ?_
   intro w6a hk hcl hfr hsz hh hbl
   have HI4:=Lib.hid (show InS w ρ B kb xb w.heap.size (w.heap.size+1) w2.heap.size w5.heap.size ⟨#[106]⟩ 1 m ⟨σ,m.mv.code++ [aByte c],m.jumps,ws.drop 1⟩ w6a from HI3.out.turn hk hh hbl.out)
   clear hk hcl hfr hsz hh hbl
   go_wp2_with fail
   refine region_j _ w ρ B kb xb w.heap.size (w.heap.size+1) w2.heap.size w5.heap.size ⟨#[106]⟩ 1 m ⟨σ,m.mv.code++ [aByte c],m.jumps,ws.drop 1⟩ s [] w6a _ m.mv.code.length rfl rfl rfl rfl HI4.out hr (by show m.jumps.length≤1000000;omega) (fun _ _ _ _ _ h=>h) ?_
   intro b w7 hzb hdb hkb hi
   have HI5:=Lib.hid (show InS w ρ B kb xb w.heap.size (w.heap.size+1) w2.heap.size w5.heap.size ⟨#[106]⟩ 1 m ⟨σ,m.mv.code++ [aByte c],m.jumps++ [⟨(m.mv.code++ [aByte c]).length,m.mv.code.length,s⟩], []⟩ w7 from hi)
   clear hi
   have hbe:=actA_chain _ b 160 19 (hk:=hkb) (hsz:=by rw [hzb];kernel_rfl) (hd:=hdb) (hln:=by show 179≤189;decide) (hn:=by decide)
   rw [show List.range 19= [0,1,2,3,4,5,6,7,8,9,10,11,12,13,14,15,16,17,18] from rfl] at hbe
   simp only [List.take_succ_cons,List.take_zero,List.drop_succ_cons,List.drop_zero,List.map_cons,List.map_nil,List.cons_append,List.nil_append,Nat.reduceAdd] at hbe
   rw [hbe]
   clear hbe hkb hzb hdb
   go_wp2_with (go_at_call 132;refine stop_here ?_)
   refine go_on ?_
   refine(HI5.out.put2 0 (by show(m.mv.code++ [aByte c]).length≤999000;omega) (by omega)).mono ?_
   rintro e w9 ⟨rfl,hi⟩
   have HI6:=Lib.hid (show InS w ρ B kb xb w.heap.size (w.heap.size+1) w2.heap.size w5.heap.size ⟨#[106]⟩ 1 m ⟨σ,m.mv.code++ [aByte c]++aBe2 0,m.jumps++ [⟨(m.mv.code++ [aByte c]).length,m.mv.code.length,s⟩], []⟩ w9 from hi)
   clear hi
   go_wp2_with fail
   rw [rounds_succ]
   go_wp2_with (refine wpl_next_end (s:=⟨#[106]⟩) (pos:=1) rfl rfl rfl HI6.out.ib (by decide) ?_)
   refine⟨rfl, .tuple #[],by simp [results,Tryz.results57], ?_⟩
   exact HI6.out.done (by rw [instr_go HC.out hc0 HNM.out HF.out HLEN.out,aOpers,oper_j (x:=⟨σ,m.mv.code++ [aByte c],m.jumps,ws.drop 1⟩) hr, ←aBe2_zero];rfl)
  ·have hq:(((ws.length - 1:Nat):Int)==1)=false:=by rw [beq_eq_false_iff_ne];omega
   have HP:=Lib.hid (show σ.instr m ws=none from instr_len HC.out HF.out (show ws.length - 1≠aWant [106] from hlen))
   clear hlen
   go_wp2_with (first| (refine wpl_next_end (s:=⟨#[106]⟩) (pos:=1) rfl rfl rfl HI1.out.ib (by decide) ?_) | (go_at_call 26;refine stop_here ?_))
   refine go_on ?_
   refine HI1.out.mustN.mono ?_
   rintro e w4 ⟨rfl,rfl⟩
   go_wp2_with fail
   exact(show _∧_ from⟨rfl,HI1.out.wrong HP.out⟩)
 ·obtain rfl:cap=1:=by omega
  go_wp2_with fail
  obtain⟨w3,hw3⟩: ∃W,W=(w2.alloc (.cells #[.slice (some ⟨b,off,none⟩) 0 0] 43)).alloc (.stringIter ⟨#[106]⟩ 0):=⟨_,rfl⟩
  have B3:=(B2.out.alloc (show w.heap.size≤w2.heap.size by omega) (.cells #[.slice (some ⟨b,off,none⟩) 0 0] 43)).alloc (by simp;omega) (.stringIter ⟨#[106]⟩ 0)
  have HB3:=(((Below.refl w2.heap.size w2).alloc (Nat.le_refl _) (.cells #[.slice (some ⟨b,off,none⟩) 0 0] 43)).alloc (by simp) (.stringIter ⟨#[106]⟩ 0))
  have HI0:=Lib.hid (show InS w ρ B kb xb w.heap.size (w.heap.size+1) w2.heap.size (w2.heap.size+1) ⟨#[106]⟩ 0 m ⟨σ,m.mv.code,m.jumps,ws.drop 1⟩ w3 from InS.start H.out HV.out HM.out (show Below w.heap.size w w3 by rw [hw3];exact B3) (HW.out.rest0 (some ⟨b,off,none⟩) (Nat.le_refl _)) (by rw [hw3];exact b12.out.below HB3 b12.out.lt) (by rw [hw3];exact b42.out.below HB3 b42.out.lt) (by rw [hw3];exact(bx_new w2 _ _).below ((Below.refl _ _).alloc (Nat.le_refl _) _) (by simp)) (by rw [hw3];exact iter_heap_at _ _ (by simp) _ _) (Nat.le_refl _) (by omega) (by omega) (by omega) (by omega) (by omega) (by omega) (by omega) (by omega))
  clear B3 HB3
  first|rw [←hw3] | (rw [show(w2.alloc (.cells #[.slice (some ⟨b,off,none⟩) 0 0] 43)).iter ⟨#[106]⟩ 0=w3 from hw3.symm])
  clear hw3
  refine wp_loop_rounds 2 ?_
  rw [rounds_succ]
  go_wp2_with (refine wpl_next (s:=⟨#[106]⟩) (pos:=0) rfl rfl rfl HI0.out.ib 106 (by rfl) (by omega) ?_;refine stop_here ?_)
  refine go_on ?_
  intro w3a hk hcl hfr hsz hh hbl
  have HI1:=Lib.hid (show InS w ρ B kb xb w.heap.size (w.heap.size+1) w2.heap.size (w2.heap.size+1) ⟨#[106]⟩ 1 m ⟨σ,m.mv.code,m.jumps,ws.drop 1⟩ w3a from HI0.out.turn hk hh hbl.out)
  clear hk hcl hfr hsz hh hbl
  go_wp2_with fail
  obtain⟨ρ',V',U',A8,n8,c8,e8⟩:=HI1.out.ex
  have d1:=HI1.out.b1.cell 0 rfl
  have d4:=HI1.out.b4.cell 0 rfl
  have d8:=e8.q.cell 0 rfl
  obtain rfl:n8=ws.length - 1:=by rw [e8.wd.len];simp
  obtain⟨Ac,cc,hcv⟩:=own_slice e8.mt.code.1
  have x6:w3a.cell? ⟨xb,6,none⟩=some (.slice Ac m.mv.code.length cc):=by rw [←show U'.cv= .slice Ac m.mv.code.length cc from hcv];exact e8.mt.box.cell 6 rfl
  clear e8 hcv
  rw [rounds_succ]
  have hlen: ¬ws.length - 1=1:=by omega
  have hq:(((ws.length - 1:Nat):Int)==1)=false:=by rw [beq_eq_false_iff_ne];omega
  have HP:=Lib.hid (show σ.instr m ws=none from instr_len HC.out HF.out (show ws.length - 1≠aWant [106] from hlen))
  clear hlen
  go_wp2_with (first| (refine wpl_next_end (s:=⟨#[106]⟩) (pos:=1) rfl rfl rfl HI1.out.ib (by decide) ?_) | (go_at_call 26;refine stop_here ?_))
  refine go_on ?_
  refine HI1.out.mustN.mono ?_
  rintro e w4 ⟨rfl,rfl⟩
  go_wp2_with fail
  exact(show _∧_ from⟨rfl,HI1.out.wrong HP.out⟩)
end Go.Proofs.YtlcidkiplidamaaGreatDoor
