/-
  What the laws rest on, part 28: walks of the program's functions and plain laws. Conditions: none but those that each theorem names.
-/
import Derived.Test.YtlcidkiplidamaaGreatDoorB22
import Derived.Test.YtlcidkiplidamaaGreatDoorB23
import Derived.Test.YtlcidkiplidamaaGreatDoorB24
import Derived.Laws.EntriesVeiled
import Derived.WalkMore
import Derived.Lib.SmallJoins
import Derived.RegionTactic
import Derived.Test.YtlcidkiplidamaaGreatDoorB18
import Derived.Test.YtlcidkiplidamaaGreatDoorB21
import Derived.Test.YtlcidkiplidamaaGreatDoorB25
import Derived.Test.YtlcidkiplidamaaGreatDoorB26
import Derived.Test.YtlcidkiplidamaaGreatDoorB27
import Derived.Test.YtlcidkiplidamaaGreatDoorB00
import Derived.Lib.Hide
import Derived.Deep.QuietTactic
import Derived.BigQuiet
import Derived.Test.YtlcidkiplidamaaGreatDoorB09
import Derived.Test.YtlcidkiplidamaaGreatDoorB17
set_option linter.unusedSimpArgs false
set_option linter.unusedVariables false
set_option maxRecDepth 100000
set_option maxHeartbeats 4000000
namespace Go.Proofs.YtlcidkiplidamaaGreatDoor
open Go Go.RowKit Lib Go.Maps
theorem instr_i (ρ:Nat→Nat) (B kb xb:Nat) (σ:AsK) (V:MkV) (m:AsM) (U:MtV) (A:Option Addr) (n cap:Nat) (ws:List ByteArray) (w:World) (N:Nat) (hK:MkC w ρ B kb σ V) (hV:V.mv= .pointer (some ⟨xb,0,none⟩)) (hM:MtC w ρ B xb m U) (hw:WdA w (Un ρ) A n cap ws) (hz:SmW ws) (hn:0<n) (hS:AsSm σ N) (hMS:AsMSm m N) (hN:N≤900000)
  (c:Int) (hc:codeOf (ws.headD ⟨#[]⟩).data.toList=c) (hc0:0≤c) (nm:List UInt8) (hnm:(rowOf c).1=nm) (hf:(rowOf c).2= [105]):
  Calls Tryz.prog 57 #[.pointer (some ⟨kb,0,none⟩), .slice A n cap] w (LPost [1,2,3,4,5,6,7,8,9,10,11,12,13] w ρ B kb σ.line (σ.instr m ws)):=by
 have hmf: ∀(fn:Fn) (first cap:Array Value) (w:World),(Instr.makeFunc fn first cap).run Tryz.prog w= .ok (.func fn first cap) w:=fun _ _ _ _=>rfl
 obtain⟨b,off,hA,hb,hub,hcc⟩:=hw.hat hn
 subst hA
 have hle:=hw.le
 have hmx:=hw.max
 have hnw:=hw.len
 subst hnw
 obtain⟨s0,hs0⟩: ∃s,ws[0]?=some s:=⟨_,List.getElem?_eq_getElem hn⟩
 have hh:ws.headD ⟨#[]⟩=s0:=by
  cases ws with
  |nil=>cases hs0
  |cons a l=>cases hs0;rfl
 have c0:=hcc 0 s0 hs0
 rw [Nat.add_zero] at c0
 have z0:=hz s0 (List.mem_of_getElem? hs0)
 have hc':codeOf s0.data.toList=c:=by rw [←hh];exact hc
 have HFI:=Lib.hid (show∀W:World,Calls Tryz.prog 129 #[.string s0] W fun e w'=>e= .returned (.int .i64 c)∧Below W.heap.size W w' from fun W=>by
  have:=opsfind_any s0 W
  rw [ByteArray.toList_eq,hc'] at this
  exact this)
 have HFO:=Lib.hid (show∀W:World,Calls Tryz.prog 130 #[.int .i64 c] W fun e w'=>e= .returned (.tuple #[.string ⟨nm.toArray⟩, .string ⟨#[105]⟩])∧Below W.heap.size W w' from fun W=>by
  have:=opsform_any c W
  rw [hnm,hf] at this
  exact this)
 have HI5: -9223372036854775808≤c∧c≤9223372036854775807:=by
  have:=codeOf_range (ws.headD ⟨#[]⟩).data.toList
  rw [hc] at this
  omega
 have hd0:decide ((0:Int)≤c)=true:=by rw [decide_eq_true_eq];exact hc0
 have H:=Lib.hid hK
 have HV:=Lib.hid hV
 have HM:=Lib.hid hM
 have HW:=Lib.hid hw
 have HZ:=Lib.hid hz
 have HS:=Lib.hid hS
 have HMS:=Lib.hid hMS
 have HC:=Lib.hid hc
 have HNM:=Lib.hid hnm
 have HF:=Lib.hid hf
 have hkl:=hK.box.lt
 have hxl:=hM.box.lt
 have c12:=hK.box.cell 12 rfl
 rw [hV] at c12
 obtain⟨y1,y2,y3,y4,y5,y6,y7,y8,y9,y10,y11,y12⟩:=far kb w.heap.size hkl
 obtain⟨x1,x2,x3,x4,x5,x6,x7,x8,x9,x10,x11,x12⟩:=far b w.heap.size hb
 clear hK hV hM hw hz hS hMS hcc hs0 hh hc hc' hnm hf
 go_enter Tryz.func57,Tryz.ntmps57
 go_wp2_with (go_at_call 129;refine stop_here ?_)
 refine go_on ?_
 refine(HFI.out _).mono ?_
 rintro e w1 ⟨rfl,hb1⟩
 have B1:=Lib.hid ((((Below.refl w.heap.size w).alloc (Nat.le_refl _) (.cells #[.pointer (some ⟨kb,0,none⟩)] 63)).alloc (by simp) (.cells #[.pointer (some ⟨xb,0,none⟩)] 65)).trans (hb1.mono (by simp;omega)))
 have b11:=Lib.hid (show Bx w1 w.heap.size [.pointer (some ⟨kb,0,none⟩)] 63 from((bx_new w [.pointer (some ⟨kb,0,none⟩)] 63).below ((Below.refl _ _).alloc (Nat.le_refl _) (.cells #[.pointer (some ⟨xb,0,none⟩)] 65)) (by simp)).below hb1 (by simp;omega))
 have b41:=Lib.hid (show Bx w1 (w.heap.size+1) [.pointer (some ⟨xb,0,none⟩)] 65 from(bx_new_at (w.alloc (.cells #[.pointer (some ⟨kb,0,none⟩)] 63)) [.pointer (some ⟨xb,0,none⟩)] 65 (w.heap.size+1) (by simp)).below hb1 (by simp))
 have hz1:=hb1.size
 simp only [World.size_alloc] at hz1
 clear hb1 c12
 have d1:=b11.out.cell 0 rfl
 go_wp2_with (go_at_call 26;refine stop_here ?_)
 refine go_on ?_
 refine(must_yes kb _ σ.line w1 (B1.out.block kb hkl|>.trans H.out.box) rfl).mono ?_
 rintro e w1' ⟨rfl,rfl⟩
 go_wp2_with (go_at_call 130;refine stop_here ?_)
 refine go_on ?_
 refine(HFO.out _).mono ?_
 rintro e w2 ⟨rfl,hb2⟩
 have B2:=Lib.hid (B1.out.trans (hb2.mono (by omega)))
 have b12:=Lib.hid (b11.out.below hb2 b11.out.lt)
 have b42:=Lib.hid (b41.out.below hb2 b41.out.lt)
 have hz2:=hb2.size
 clear hb2 d1
 have HW2:=Lib.hid (HW.out)
 rcases Nat.lt_or_ge 1 cap with hcap|hcap
 ·go_wp2_with fail
  obtain⟨w3,hw3⟩: ∃W,W=(w2.alloc (.cells #[.slice (some ⟨b,off+1,none⟩) (ws.length - 1) (cap - 1)] 43)).alloc (.stringIter ⟨#[105]⟩ 0):=⟨_,rfl⟩
  have B3:=(B2.out.alloc (show w.heap.size≤w2.heap.size by omega) (.cells #[.slice (some ⟨b,off+1,none⟩) (ws.length - 1) (cap - 1)] 43)).alloc (by simp;omega) (.stringIter ⟨#[105]⟩ 0)
  have HB3:=(((Below.refl w2.heap.size w2).alloc (Nat.le_refl _) (.cells #[.slice (some ⟨b,off+1,none⟩) (ws.length - 1) (cap - 1)] 43)).alloc (by simp) (.stringIter ⟨#[105]⟩ 0))
  have HI0:=Lib.hid (show InS w ρ B kb xb w.heap.size (w.heap.size+1) w2.heap.size (w2.heap.size+1) ⟨#[105]⟩ 0 m ⟨σ,m.mv.code,m.jumps,ws.drop 1⟩ w3 from InS.start H.out HV.out HM.out (show Below w.heap.size w w3 by rw [hw3];exact B3) (HW.out.rest1 rfl hcap) (by rw [hw3];exact b12.out.below HB3 b12.out.lt) (by rw [hw3];exact b42.out.below HB3 b42.out.lt) (by rw [hw3];exact(bx_new w2 _ _).below ((Below.refl _ _).alloc (Nat.le_refl _) _) (by simp)) (by rw [hw3];exact iter_heap_at _ _ (by simp) _ _) (Nat.le_refl _) (by omega) (by omega) (by omega) (by omega) (by omega) (by omega) (by omega) (by omega))
  clear B3 HB3
  first|rw [←hw3] | (rw [show(w2.alloc (.cells #[.slice (some ⟨b,off+1,none⟩) (ws.length - 1) (cap - 1)] 43)).iter ⟨#[105]⟩ 0=w3 from hw3.symm])
  clear hw3
  refine wp_loop_rounds 2 ?_
  rw [rounds_succ]
  go_wp2_with (refine wpl_next (s:=⟨#[105]⟩) (pos:=0) rfl rfl rfl HI0.out.ib 105 (by rfl) (by omega) ?_;refine stop_here ?_)
  refine go_on ?_
  intro w3a hk hcl hfr hsz hh hbl
  have HI1:=Lib.hid (show InS w ρ B kb xb w.heap.size (w.heap.size+1) w2.heap.size (w2.heap.size+1) ⟨#[105]⟩ 1 m ⟨σ,m.mv.code,m.jumps,ws.drop 1⟩ w3a from HI0.out.turn hk hh hbl.out)
  clear hk hcl hfr hsz hh hbl
  go_wp2_with fail
  obtain⟨ρ',V',U',A8,n8,c8,e8⟩:=HI1.out.ex
  have d1:=HI1.out.b1.cell 0 rfl
  have d4:=HI1.out.b4.cell 0 rfl
  have d8:=e8.q.cell 0 rfl
  obtain rfl:n8=ws.length - 1:=by rw [e8.wd.len];simp
  obtain⟨Ac,cc,hcv⟩:=own_slice e8.mt.code.1
  have x6:w3a.cell? ⟨xb,6,none⟩=some (.slice Ac m.mv.code.length cc):=by rw [←show U'.cv= .slice Ac m.mv.code.length cc from hcv];exact e8.mt.box.cell 6 rfl
  clear e8 hcv
  rw [rounds_succ]
  by_cases hlen:ws.length - 1=3
  ·have hq:(((ws.length - 1:Nat):Int)==3)=true:=by rw [beq_iff_eq];omega
   have HLEN:=Lib.hid (show ws.length - 1=aWant [105] from hlen)
   clear hlen
   go_wp2_with (first| (refine wpl_next_end (s:=⟨#[105]⟩) (pos:=1) rfl rfl rfl HI1.out.ib (by decide) ?_) | (go_at_call 26;refine stop_here ?_))
   refine go_on ?_
   refine HI1.out.mustY.mono ?_
   rintro e w4 ⟨rfl,rfl⟩
   clear d1 d8
   go_wp2_with (go_at_call 132;refine stop_here ?_)
   refine go_on ?_
   refine(HI1.out.put1 c (by show m.mv.code.length≤999000;have:=HMS.out.code;omega) HI5).mono ?_
   rintro e w5 ⟨rfl,hi⟩
   have HI2:=Lib.hid (show InS w ρ B kb xb w.heap.size (w.heap.size+1) w2.heap.size (w2.heap.size+1) ⟨#[105]⟩ 1 m ⟨σ,m.mv.code++ [aByte c],m.jumps,ws.drop 1⟩ w5 from hi)
   clear hi d4 x6
   have hwl:w2.heap.size<w5.heap.size:=by obtain⟨ρ5,V5,U5,A5,n5,c5,e5⟩:=HI2.out.ex;exact e5.q.lt
   go_wp2_with fail
   have HI3:=Lib.hid (show InS w ρ B kb xb w.heap.size (w.heap.size+1) w2.heap.size w5.heap.size ⟨#[105]⟩ 0 m ⟨σ,m.mv.code++ [aByte c],m.jumps,ws.drop 1⟩ (w5.iter ⟨#[105]⟩ 0) from HI2.out.again ⟨#[105]⟩ w5.heap.size rfl)
   obtain⟨w6,hw6⟩: ∃W,W=w5.iter ⟨#[105]⟩ 0:=⟨_,rfl⟩
   rw [←hw6]
   replace HI3:Hid (InS w ρ B kb xb w.heap.size (w.heap.size+1) w2.heap.size w5.heap.size ⟨#[105]⟩ 0 m ⟨σ,m.mv.code++ [aByte c],m.jumps,ws.drop 1⟩ w6):=by rw [hw6];exact HI3
   clear hw6
   have hcl:(m.mv.code++ [aByte c]).length≤990000:=by have:=HMS.out.code;simp;omega
   have hpl:σ.c.pool.length≤990000:=by have:=HS.out.npool;omega
   refine wp_loop_rounds 2 ?_
   obtain⟨s,t,u,hr,hsm,htm,hum⟩:=want_three HLEN.out
   have hsz:=HZ.out s hsm
   have htz:=HZ.out t htm
   have huz:=HZ.out u hum
   have hmm:= @run_makeMap Tryz.prog
   rw [rounds_succ]
   go_wp2_with (refine wpl_next (s:=⟨#[105]⟩) (pos:=0) rfl rfl rfl HI3.out.ib 105 (by rfl) (by omega) ?_;refine stop_here ?_)
   refine go_on ?_
   intro w6a hk hcl hfr hsz hh hbl
   have HI4:=Lib.hid (show InS w ρ B kb xb w.heap.size (w.heap.size+1) w2.heap.size w5.heap.size ⟨#[105]⟩ 1 m ⟨σ,m.mv.code++ [aByte c],m.jumps,ws.drop 1⟩ w6a from HI3.out.turn hk hh hbl.out)
   clear hk hcl hfr hsz hh hbl
   have hmb:=(member_small HS.out (t:=11) (c:=s) (n:=t) (d:=u) (by unfold TagOk;omega) hsz htz huz (by omega)).2
   go_wp2_with (go_at_call 131;refine stop_here ?_)
   refine go_on ?_
   refine(HI4.out.next hr).mono ?_
   rintro e w7 ⟨rfl,hi⟩
   have HI5:=Lib.hid (show InS w ρ B kb xb w.heap.size (w.heap.size+1) w2.heap.size w5.heap.size ⟨#[105]⟩ 1 m ⟨σ,m.mv.code++ [aByte c],m.jumps, [t,u]⟩ w7 from hi)
   clear hi
   go_wp2_with (go_at_call 131;refine stop_here ?_)
   refine go_on ?_
   refine(HI5.out.next rfl).mono ?_
   rintro e w8 ⟨rfl,hi⟩
   have HI6:=Lib.hid (show InS w ρ B kb xb w.heap.size (w.heap.size+1) w2.heap.size w5.heap.size ⟨#[105]⟩ 1 m ⟨σ,m.mv.code++ [aByte c],m.jumps, [u]⟩ w8 from hi)
   clear hi
   go_wp2_with (go_at_call 131;refine stop_here ?_)
   refine go_on ?_
   refine(HI6.out.next rfl).mono ?_
   rintro e w9 ⟨rfl,hi⟩
   have HI7:=Lib.hid (show InS w ρ B kb xb w.heap.size (w.heap.size+1) w2.heap.size w5.heap.size ⟨#[105]⟩ 1 m ⟨σ,m.mv.code++ [aByte c],m.jumps, []⟩ w9 from hi)
   clear hi
   have HM0:=Lib.hid (mapL_made w9 Tryz.prog 21)
   have HB0:=Lib.hid ((Below.refl w9.heap.size w9).alloc (Nat.le_refl _) (.map #[] 0))
   go_wp2_with (refine wpli_ins rfl _ _ _ rfl Tryz.underlying21 Tryz.underlying182 rfl HM0.out (by decide) rfl (by decide) rfl ?_;refine stop_here ?_)
   refine go_on ?_
   intro w9a hm hg
   have HM1:=Lib.hid hm
   have HB1:=Lib.hid (HB0.out.grown hg (by have:=HB0.out.size;simp) (fun k hk=>by cases hk;exact Nat.le_refl _))
   clear hm hg HM0 HB0
   go_wp2_with (refine wpli_ins rfl _ _ _ rfl Tryz.underlying21 Tryz.underlying182 rfl HM1.out (by decide) rfl (by decide) rfl ?_;refine stop_here ?_)
   refine go_on ?_
   intro w9b hm hg
   have HM2:=Lib.hid hm
   have HB2:=Lib.hid (HB1.out.grown hg (by have:=HB1.out.size;omega) (fun k hk=>by cases hk;exact Nat.le_refl _))
   clear hm hg HM1 HB1
   go_wp2_with (refine wpli_ins rfl _ _ _ rfl Tryz.underlying21 Tryz.underlying182 rfl HM2.out (by decide) rfl (by decide) rfl ?_;refine stop_here ?_)
   refine go_on ?_
   intro w9c hm hg
   have HM3:=Lib.hid hm
   have HB3:=Lib.hid (HB2.out.grown hg (by have:=HB2.out.size;omega) (fun k hk=>by cases hk;exact Nat.le_refl _))
   clear hm hg HM2 HB2
   have HI8:=Lib.hid (HI7.out.below HB3.out)
   have d1:=HI8.out.b1.cell 0 rfl
   go_wp2_with (refine wpli_get rfl _ _ rfl Tryz.underlying21 Tryz.underlying182 (z:= .int .i64 0) (by kernel_rfl) rfl HM3.out rfl (by decide) ?_;refine stop_here ?_)
   refine go_on ?_
   try simp only [Int.reduceEq,if_true,if_false,reduceIte,Option.getD_some]
   go_wp2_with (go_at_call 134;refine stop_here ?_)
   refine go_on ?_
   refine(HI8.out.member 11 s t u (by unfold TagOk;omega) hsz htz huz (by show σ.c.pool.length≤999000;omega)).mono ?_
   rintro e w10 ⟨rfl,hi⟩
   have HI9:=Lib.hid (show InS w ρ B kb xb w.heap.size (w.heap.size+1) w2.heap.size w5.heap.size ⟨#[105]⟩ 1 m ⟨(σ.member 11 s t u).2,m.mv.code++ [aByte c],m.jumps, []⟩ w10 from hi)
   clear hi d1
   go_wp2_with (go_at_call 132;refine stop_here ?_)
   refine go_on ?_
   refine(HI9.out.put2 (((σ.member 11 s t u).1:Nat):Int) (by show(m.mv.code++ [aByte c]).length≤999000;omega) (by omega)).mono ?_
   rintro e w11 ⟨rfl,hi⟩
   have HI10:=Lib.hid (show InS w ρ B kb xb w.heap.size (w.heap.size+1) w2.heap.size w5.heap.size ⟨#[105]⟩ 1 m ⟨(σ.member 11 s t u).2,m.mv.code++ [aByte c]++aBe2 (σ.member 11 s t u).1,m.jumps, []⟩ w11 from hi)
   clear hi
   have hks:=kinds_len u
   have hum2:u.size≤9223372036854775807:=by omega
   go_wp2_with (go_at_call 99;refine stop_here ?_)
   refine go_on ?_
   refine(kinds_any u _ hum2).mono ?_
   rintro e w12 ⟨rfl,hb12⟩
   have HI11:=Lib.hid (HI10.out.below hb12)
   clear hb12
   have hcl2:(m.mv.code++ [aByte c]++aBe2 (σ.member 11 s t u).1).length≤998000:=by rw [List.length_append];simp only [aBe2,List.length_cons,List.length_nil];omega
   have hsx:((kindsV u).1.toList.length:Int)=((kindsV u).1.size:Int):=by rw [ByteArray.toList_eq];simp
   go_wp2_with (go_at_call 132;refine stop_here ?_)
   refine go_on ?_
   refine(HI11.out.put1 (((kindsV u).1.size:Int)+1) (by show(m.mv.code++ [aByte c]++aBe2 (σ.member 11 s t u).1).length≤999000;omega) (by omega)).mono ?_
   rintro e w13 ⟨rfl,hi⟩
   have HI12:=Lib.hid (show InS w ρ B kb xb w.heap.size (w.heap.size+1) w2.heap.size w5.heap.size ⟨#[105]⟩ 1 m ⟨(σ.member 11 s t u).2,m.mv.code++ [aByte c]++aBe2 (σ.member 11 s t u).1++ [aByte (((kindsV u).1.size:Int)+1)],m.jumps, []⟩ w13 from hi)
   clear hi
   go_wp2_with (go_at_call 132;refine stop_here ?_)
   refine go_on ?_
   refine(HI12.out.put1 0 (by show(m.mv.code++ [aByte c]++aBe2 (σ.member 11 s t u).1++ [aByte (((kindsV u).1.size:Int)+1)]).length≤999000;rw [List.length_append];simp only [List.length_cons,List.length_nil];omega) (by omega)).mono ?_
   rintro e w14 ⟨rfl,hi⟩
   have hcd:m.mv.code++ [aByte c]++aBe2 (σ.member 11 s t u).1++ [aByte (((kindsV u).1.size:Int)+1)]++ [aByte 0]=m.mv.code++ [aByte c]++aBe2 (σ.member 11 s t u).1++ [aByte (((kindsV u).1.size:Int)+1),0]:=by rw [aByte_zero];simp
   simp only [hcd] at hi
   have HI13:=Lib.hid (show InS w ρ B kb xb w.heap.size (w.heap.size+1) w2.heap.size w5.heap.size ⟨#[105]⟩ 1 m ⟨(σ.member 11 s t u).2,m.mv.code++ [aByte c]++aBe2 (σ.member 11 s t u).1++ [aByte (((kindsV u).1.size:Int)+1),0],m.jumps, []⟩ w14 from hi)
   clear hi hcd
   go_wp2_with fail
   rw [rounds_succ]
   go_wp2_with (refine wpl_next_end (s:=⟨#[105]⟩) (pos:=1) rfl rfl rfl HI13.out.ib (by decide) ?_)
   refine⟨rfl, .tuple #[],by simp [results,Tryz.results57], ?_⟩
   exact HI13.out.done (by rw [instr_go HC.out hc0 HNM.out HF.out HLEN.out,aOpers,oper_i (x:=⟨σ,m.mv.code++ [aByte c],m.jumps,ws.drop 1⟩) hr];rfl)
  ·have hq:(((ws.length - 1:Nat):Int)==3)=false:=by rw [beq_eq_false_iff_ne];omega
   have HP:=Lib.hid (show σ.instr m ws=none from instr_len HC.out HF.out (show ws.length - 1≠aWant [105] from hlen))
   clear hlen
   go_wp2_with (first| (refine wpl_next_end (s:=⟨#[105]⟩) (pos:=1) rfl rfl rfl HI1.out.ib (by decide) ?_) | (go_at_call 26;refine stop_here ?_))
   refine go_on ?_
   refine HI1.out.mustN.mono ?_
   rintro e w4 ⟨rfl,rfl⟩
   go_wp2_with fail
   exact(show _∧_ from⟨rfl,HI1.out.wrong HP.out⟩)
 ·obtain rfl:cap=1:=by omega
  go_wp2_with fail
  obtain⟨w3,hw3⟩: ∃W,W=(w2.alloc (.cells #[.slice (some ⟨b,off,none⟩) 0 0] 43)).alloc (.stringIter ⟨#[105]⟩ 0):=⟨_,rfl⟩
  have B3:=(B2.out.alloc (show w.heap.size≤w2.heap.size by omega) (.cells #[.slice (some ⟨b,off,none⟩) 0 0] 43)).alloc (by simp;omega) (.stringIter ⟨#[105]⟩ 0)
  have HB3:=(((Below.refl w2.heap.size w2).alloc (Nat.le_refl _) (.cells #[.slice (some ⟨b,off,none⟩) 0 0] 43)).alloc (by simp) (.stringIter ⟨#[105]⟩ 0))
  have HI0:=Lib.hid (show InS w ρ B kb xb w.heap.size (w.heap.size+1) w2.heap.size (w2.heap.size+1) ⟨#[105]⟩ 0 m ⟨σ,m.mv.code,m.jumps,ws.drop 1⟩ w3 from InS.start H.out HV.out HM.out (show Below w.heap.size w w3 by rw [hw3];exact B3) (HW.out.rest0 (some ⟨b,off,none⟩) (Nat.le_refl _)) (by rw [hw3];exact b12.out.below HB3 b12.out.lt) (by rw [hw3];exact b42.out.below HB3 b42.out.lt) (by rw [hw3];exact(bx_new w2 _ _).below ((Below.refl _ _).alloc (Nat.le_refl _) _) (by simp)) (by rw [hw3];exact iter_heap_at _ _ (by simp) _ _) (Nat.le_refl _) (by omega) (by omega) (by omega) (by omega) (by omega) (by omega) (by omega) (by omega))
  clear B3 HB3
  first|rw [←hw3] | (rw [show(w2.alloc (.cells #[.slice (some ⟨b,off,none⟩) 0 0] 43)).iter ⟨#[105]⟩ 0=w3 from hw3.symm])
  clear hw3
  refine wp_loop_rounds 2 ?_
  rw [rounds_succ]
  go_wp2_with (refine wpl_next (s:=⟨#[105]⟩) (pos:=0) rfl rfl rfl HI0.out.ib 105 (by rfl) (by omega) ?_;refine stop_here ?_)
  refine go_on ?_
  intro w3a hk hcl hfr hsz hh hbl
  have HI1:=Lib.hid (show InS w ρ B kb xb w.heap.size (w.heap.size+1) w2.heap.size (w2.heap.size+1) ⟨#[105]⟩ 1 m ⟨σ,m.mv.code,m.jumps,ws.drop 1⟩ w3a from HI0.out.turn hk hh hbl.out)
  clear hk hcl hfr hsz hh hbl
  go_wp2_with fail
  obtain⟨ρ',V',U',A8,n8,c8,e8⟩:=HI1.out.ex
  have d1:=HI1.out.b1.cell 0 rfl
  have d4:=HI1.out.b4.cell 0 rfl
  have d8:=e8.q.cell 0 rfl
  obtain rfl:n8=ws.length - 1:=by rw [e8.wd.len];simp
  obtain⟨Ac,cc,hcv⟩:=own_slice e8.mt.code.1
  have x6:w3a.cell? ⟨xb,6,none⟩=some (.slice Ac m.mv.code.length cc):=by rw [←show U'.cv= .slice Ac m.mv.code.length cc from hcv];exact e8.mt.box.cell 6 rfl
  clear e8 hcv
  rw [rounds_succ]
  have hlen: ¬ws.length - 1=3:=by omega
  have hq:(((ws.length - 1:Nat):Int)==3)=false:=by rw [beq_eq_false_iff_ne];omega
  have HP:=Lib.hid (show σ.instr m ws=none from instr_len HC.out HF.out (show ws.length - 1≠aWant [105] from hlen))
  clear hlen
  go_wp2_with (first| (refine wpl_next_end (s:=⟨#[105]⟩) (pos:=1) rfl rfl rfl HI1.out.ib (by decide) ?_) | (go_at_call 26;refine stop_here ?_))
  refine go_on ?_
  refine HI1.out.mustN.mono ?_
  rintro e w4 ⟨rfl,rfl⟩
  go_wp2_with fail
  exact(show _∧_ from⟨rfl,HI1.out.wrong HP.out⟩)
set_option maxHeartbeats 2000000
theorem instr_no (ρ:Nat→Nat) (B kb xb:Nat) (σ:AsK) (V:MkV) (m:AsM) (U:MtV) (A:Option Addr) (n cap:Nat) (ws:List ByteArray) (w:World) (hK:MkC w ρ B kb σ V) (hV:V.mv= .pointer (some ⟨xb,0,none⟩)) (hM:MtC w ρ B xb m U) (hw:WdA w (Un ρ) A n cap ws) (hz:SmW ws) (hn:0<n)
  (c:Int) (hc:codeOf (ws.headD ⟨#[]⟩).data.toList=c) (hc0:c<0):
  Calls Tryz.prog 57 #[.pointer (some ⟨kb,0,none⟩), .slice A n cap] w (LPost [1,2,3,4,5,6,7,8,9,10,11,12,13] w ρ B kb σ.line (σ.instr m ws)):=by
 obtain⟨b,off,hA,hb,hub,hcc⟩:=hw.hat hn
 subst hA
 have hle:=hw.le
 have hmx:=hw.max
 have hnw:=hw.len
 subst hnw
 obtain⟨s0,hs0⟩: ∃s,ws[0]?=some s:=⟨_,List.getElem?_eq_getElem hn⟩
 have hh:ws.headD ⟨#[]⟩=s0:=by
  cases ws with
  |nil=>cases hs0
  |cons a l=>cases hs0;rfl
 have c0:=hcc 0 s0 hs0
 rw [Nat.add_zero] at c0
 have hc':codeOf s0.data.toList=c:=by rw [←hh];exact hc
 have HFI:=Lib.hid (show∀W:World,Calls Tryz.prog 129 #[.string s0] W fun e w'=>e= .returned (.int .i64 c)∧Below W.heap.size W w' from fun W=>by
  have:=opsfind_any s0 W
  rw [ByteArray.toList_eq,hc'] at this
  exact this)
 have HI5: -9223372036854775808≤c∧c≤9223372036854775807:=by
  have:=codeOf_range (ws.headD ⟨#[]⟩).data.toList
  rw [hc] at this
  omega
 have hd0:decide ((0:Int)≤c)=false:=by rw [decide_eq_false_iff_not];omega
 have HP:=Lib.hid (show σ.instr m ws=none from instr_neg (by rw [hc];exact hc0))
 have H:=Lib.hid hK
 have hkl:=hK.box.lt
 have hB:=hK.hB
 have c12:=hK.box.cell 12 rfl
 rw [hV] at c12
 obtain⟨y1,y2,y3,y4,y5,y6,y7,y8,y9,y10,y11,y12⟩:=far kb w.heap.size hkl
 obtain⟨x1,x2,x3,x4,x5,x6,x7,x8,x9,x10,x11,x12⟩:=far b w.heap.size hb
 clear hK hV hM hw hz hcc hs0 hh hc hc'
 go_enter Tryz.func57,Tryz.ntmps57
 go_wp2_with (go_at_call 129;refine stop_here ?_)
 refine go_on ?_
 refine(HFI.out _).mono ?_
 rintro e w1 ⟨rfl,hb1⟩
 have B1:=Lib.hid ((((Below.refl w.heap.size w).alloc (Nat.le_refl _) (.cells #[.pointer (some ⟨kb,0,none⟩)] 63)).alloc (by simp) (.cells #[.pointer (some ⟨xb,0,none⟩)] 65)).trans (hb1.mono (by simp;omega)))
 have b11:=Lib.hid (show Bx w1 w.heap.size [.pointer (some ⟨kb,0,none⟩)] 63 from((bx_new w [.pointer (some ⟨kb,0,none⟩)] 63).below ((Below.refl _ _).alloc (Nat.le_refl _) (.cells #[.pointer (some ⟨xb,0,none⟩)] 65)) (by simp)).below hb1 (by simp;omega))
 clear hb1 c12
 have d1:=b11.out.cell 0 rfl
 go_wp2_with (go_at_call 26;refine stop_here ?_)
 refine go_on ?_
 refine(must_no kb _ σ.line w1 (B1.out.block kb hkl|>.trans H.out.box) rfl).mono ?_
 rintro e w1' ⟨rfl,rfl⟩
 go_wp2_with fail
 exact(show _∧_ from⟨rfl,lpost_none HP.out (B1.out.mono hB)⟩)
theorem nm_ub {c:Int} (h:(rowOf c).2= [117,98]):(rowOf c).1≠ [108,100,99]:=by
 unfold rowOf at h⊢
 cases hr:rowL.find? (fun r=>r.1==c) with
 |none=>rw [hr] at h;cases h
 |some r=>
  rw [hr] at h
  have hall: ∀r∈rowL,r.2.2= [117,98]→r.2.1≠ [108,100,99]:=by decide
  exact hall r (List.mem_of_find?_eq_some hr) h
theorem instr_all:InstrC:=by
 intro ρ B kb xb σ V m U A n cap ws w N hK hV hM hw hz hn hS hMS hN
 obtain⟨c,hc⟩: ∃c,codeOf (ws.headD ⟨#[]⟩).data.toList=c:=⟨_,rfl⟩
 by_cases hc0:c<0
 ·exact instr_no ρ B kb xb σ V m U A n cap ws w hK hV hM hw hz hn c hc hc0
 ·have hf:=rowA_forms c
  obtain⟨nm,hnm⟩: ∃nm,(rowOf c).1=nm:=⟨_,rfl⟩
  simp only [formsA,List.mem_cons,List.not_mem_nil,or_false] at hf
  rcases hf with hf|hf|hf|hf|hf|hf|hf|hf|hf|hf
  ·exact instr_e ρ B kb xb σ V m U A n cap ws w N hK hV hM hw hz hn hS hMS hN c hc (by omega) nm hnm hf
  ·exact instr_b ρ B kb xb σ V m U A n cap ws w N hK hV hM hw hz hn hS hMS hN c hc (by omega) nm hnm hf
  ·by_cases hl:nm= [108,100,99]
   ·exact instr_l ρ B kb xb σ V m U A n cap ws w N hK hV hM hw hz hn hS hMS hN c hc (by omega) nm hnm hf hl
   ·exact instr_u ρ B kb xb σ V m U A n cap ws w N hK hV hM hw hz hn hS hMS hN c hc (by omega) nm hnm hf hl
  ·exact instr_s ρ B kb xb σ V m U A n cap ws w N hK hV hM hw hz hn hS hMS hN c hc (by omega) nm hnm hf
  ·exact instr_j ρ B kb xb σ V m U A n cap ws w N hK hV hM hw hz hn hS hMS hN c hc (by omega) nm hnm hf
  ·exact instr_f ρ B kb xb σ V m U A n cap ws w N hK hV hM hw hz hn hS hMS hN c hc (by omega) nm hnm hf
  ·exact instr_m ρ B kb xb σ V m U A n cap ws w N hK hV hM hw hz hn hS hMS hN c hc (by omega) nm hnm hf
  ·exact instr_c ρ B kb xb σ V m U A n cap ws w N hK hV hM hw hz hn hS hMS hN c hc (by omega) nm hnm hf
  ·exact instr_i ρ B kb xb σ V m U A n cap ws w N hK hV hM hw hz hn hS hMS hN c hc (by omega) nm hnm hf
  ·exact instr_w ρ B kb xb σ V m U A n cap ws w N hK hV hM hw hz hn hS hMS hN c hc (by omega) nm hnm hf (by rintro rfl;exact absurd hnm (nm_ub hf))
theorem end_c:EndC:=fun ρ B kb xb σ V m U w N hK hV hM hS hMS hN=>end_any ρ B kb xb σ V m U w N hK hV hM hS hMS hN
theorem asm_all (text:ByteArray) (mx:Int) (w:World) (hmx:w.cell? ⟨Tryz.maxB,0,none⟩=some (.int .i64 mx)) (hts:text.size≤1000000) (hls: ∀s∈aLines text,Mute s∨s.size≤65536):
  Calls Tryz.prog 9 #[.string text] w (AsmPost w (aAsm checkF text)):=asm_any instr_all end_c text mx w hmx hts hls
end Go.Proofs.YtlcidkiplidamaaGreatDoor
set_option maxHeartbeats 4000000
namespace Go.Proofs.YtlcidkiplidamaaGreatDoor
open Go Go.RowKit Lib
def s16 (n:Int):Int:=if 32768≤n then n - 65536 else n
theorem wrap_i16 (n:Int):IntKind.i16.wrap n=(n+32768)%65536 - 32768:=by
 show(if(true&&decide (n%65536≥32768))=true then n%65536 - 65536 else n%65536)=_
 by_cases h:n%65536≥32768<;>simp [h] <;>omega
theorem or_bytes (a b:Nat) (ha:a<256) (hb:b<256):a*256|||b=256*a+b:=by
 have h:=Nat.two_pow_add_eq_or_of_lt (i:=8) (b:=b) (by omega) a
 rw [Nat.mul_comm a 256]
 exact h.symm
theorem fix_or16 (a b:Nat) (ha:a<256) (hb:b<256):bits .or .u16 ((a:Int)*256) b=256*(a:Int)+b:=by
 show IntKind.u16.wrap ((BitVec.ofInt 16 ((a:Int)*256) |||BitVec.ofInt 16 (b:Int)).toNat:Int)=_
 have h1:(BitVec.ofInt 16 ((a:Int)*256)).toNat=a*256:=by
  rw [show(a:Int)*256=((a*256:Nat):Int) from by omega,BitVec.ofInt_natCast,BitVec.toNat_ofNat]
  omega
 have h2:(BitVec.ofInt 16 (b:Int)).toNat=b:=by rw [BitVec.ofInt_natCast,BitVec.toNat_ofNat];omega
 rw [BitVec.toNat_or,h1,h2,or_bytes a b ha hb,IntKind.wrap_u16]
 omega
theorem fix_s16 (a b:Nat) (ha:a<256) (hb:b<256):wrap64 (IntKind.i16.wrap (bits .or .u16 ((a:Int)*256) b))=s16 (256*(a:Int)+b):=by
 rw [fix_or16 a b ha hb,wrap_i16,wrap64,s16]
 split<;>omega
theorem dec_jump (b off len cap p:Nat) (c a1 a2:Nat) (nm:List UInt8) (w:World) (hp:p<len) (hcap:len≤cap) (hm:len≤9223372036854775807) (hc:c<256) (hx1:a1<256) (hx2:a2<256)
  (hrow:rowOf c=(nm, [106])) (hnm:nm≠ []) (h0:w.cell? ⟨b,off+p,none⟩=some (.int .u8 c)) (hb:b<w.heap.size) (hlen:p+3≤len) (h1:w.cell? ⟨b,off+(p+1),none⟩=some (.int .u8 a1)) (h2:w.cell? ⟨b,off+(p+2),none⟩=some (.int .u8 a2)):
  Calls Tryz.prog 16 #[.slice (some ⟨b,off,none⟩) len cap, .int .i64 p] w fun e w'=>e= .returned (.tuple #[.agg #[.int .i64 c, .int .i64 (s16 (256*(a1:Int)+a2)), .int .i64 (0), .int .i64 3], .bool true])∧Below w.heap.size w w':=by
 have HT: ∀W,Calls Tryz.prog 33 #[.int .i64 c] W fun e w'=>e= .returned (.agg #[.string ⟨nm.toArray⟩, .string ⟨#[106]⟩])∧Below W.heap.size W w':=fun W=>by
  have:=table_any c W
  rw [hrow] at this
  exact this
 have HT':=Lib.hid HT
 clear HT
 have e0:nm.isEmpty=false:=by cases nm<;>simp_all
 clear hrow
 go_enter Tryz.func16,Tryz.ntmps16
 go_wp2_with fail
 refine(HT'.out _).mono ?_
 rintro e w1 ⟨rfl,hb1⟩
 have hz:=hb1.size
 simp only [World.size_alloc] at hz
 have HB:=Lib.hid hb1
 obtain⟨hc,hf⟩:=bcell hb1
 have f0:=fun o=>hf w.heap.size o (by simp)
 have d0:=hc w.heap.size 0 (by simp)
 have d1:=hc w.heap.size 1 (by simp)
 have d2:=hc w.heap.size 2 (by simp)
 have d3:=hc w.heap.size 3 (by simp)
 have g0:=hc b (off+p) (by simp;omega)
 rw [World.cell?_alloc_lt _ _ _ hb,h0] at g0
 have g1:=hc b (off+(p+1)) (by simp;omega)
 rw [World.cell?_alloc_lt _ _ _ hb,h1] at g1
 have g2:=hc b (off+(p+2)) (by simp;omega)
 rw [World.cell?_alloc_lt _ _ _ hb,h2] at g2
 have g2':w1.cell? ⟨b,off+(p+1)+1,none⟩=some (.int .u8 a2):=by rw [show off+(p+1)+1=off+(p+2) from by omega];exact g2
 clear hc hf hb1
 simp [go_sem] at f0 d0 d1 d2 d3
 obtain⟨x1,x2,x3,x4,x5,x6,x7,x8,x9,x10,x11,x12⟩:=far b w1.heap.size (by omega)
 obtain⟨y1,y2,y3,y4,y5,y6,y7,y8,y9,y10,y11,y12⟩:=far w.heap.size w1.heap.size (by omega)
 go_wp2
 refine wp_loop_rounds 2 ?_
 rw [rounds_succ]
 go_wp2_with (first| (refine wpl_next (s:=⟨#[106]⟩) (pos:=0) rfl rfl rfl (iter_heap_at _ _ (by simp) _ _) 106 (by rfl) (by omega) ?_;intro W1 hk1 hc1 hf1 hs1 hh1 hb1;(try simp only [World.iter,World.size_alloc] at hc1 hf1 hs1);clear hh1) |go_in)
 go_quiet (fail)
 go_wp2
 rw [rounds_succ]
 go_wp2_with (refine wpl_next_end (s:=⟨#[106]⟩) (pos:=1) rfl rfl rfl (by simp [Below.heap_setCell,hk1]) (by decide) ?_)
 have q1:=fix_s16 a1 a2 hx1 hx2
 refine bodyPost_ret (v:= .tuple #[.agg #[.int .i64 c, .int .i64 (s16 (256*(a1:Int)+a2)), .int .i64 (0), .int .i64 3], .bool true]) ?_ rfl ⟨rfl, ?_⟩
 ·simp [results,Tryz.results16,go_sem, *]
 ·have B0:Below w.heap.size w w1:=((Below.refl _ _).alloc (Nat.le_refl _) _).trans (HB.out.mono (by simp))
  have B1:Below w.heap.size w W1:=by
   refine Below.trans ?_ (hb1.out.mono ?_)
   ·repeat' (first|with_reducible exact B0|with_reducible refine below_drewN ?_ _|with_reducible refine Below.setCell ?_ ?_ _|with_reducible refine Below.alloc ?_ ?_ _|with_reducible refine below_iter ?_ ?_ _ _| (simp;done) | (simp;omega) |omega)
   ·omega
  repeat' (first|with_reducible exact B0|with_reducible exact B1|with_reducible refine below_drewN ?_ _|with_reducible refine Below.setCell ?_ ?_ _|with_reducible refine Below.alloc ?_ ?_ _|with_reducible refine below_iter ?_ ?_ _ _| (simp;done) | (simp;omega) |omega)
theorem cut_line (l r:List UInt8) (h:(10:UInt8)∉l):cutL (l++10::r)=l::cutL r:=by
 induction l with
 |nil=>rw [List.nil_append,cutL,if_pos rfl]
 |cons c l ih=>
  rw [List.cons_append,cutL,if_neg (fun e=>h (by simp [e])),ih (fun hm=>h (by simp [hm]))]
def joinL (ls:List (List UInt8)):List UInt8:=(ls.map (· ++ [10])).flatten
theorem joinL_cons (l:List UInt8) (ls:List (List UInt8)):joinL (l::ls)=l++10::joinL ls:=by simp [joinL]
theorem joinL_append (a b:List (List UInt8)):joinL (a++b)=joinL a++joinL b:=by simp [joinL]
theorem cut_join (ls:List (List UInt8)) (h: ∀l∈ls,(10:UInt8)∉l):cutL (joinL ls)=ls++ [[]]:=by
 induction ls with
 |nil=>rfl
 |cons l ls ih=>
  rw [joinL_cons,cut_line _ _ (h l (by simp)),ih (fun x hx=>h x (by simp [hx]))]
  rfl
theorem lines_join (ls:List (List UInt8)) (h: ∀l∈ls,(10:UInt8)∉l):linesL (joinL ls)=ls:=by
 unfold linesL
 rw [cut_join ls h,if_pos]
 ·simp
 ·rw [List.getLastD_eq_getLast?,List.getLast?_concat]
  rfl
def bytesB (l:List UInt8):ByteArray:=⟨l.toArray⟩
theorem alines_join {text:ByteArray} {ls:List (List UInt8)} (ht:text.data.toList=joinL ls) (h: ∀l∈ls,(10:UInt8)∉l):aLines text=ls.map bytesB:=by
 have h1:=lines_list text
 rw [ht,lines_join ls h] at h1
 rw [←h1,List.map_map]
 conv=>lhs;rw [←List.map_id (aLines text)]
 refine List.map_congr_left fun x _=> ?_
 simp [bytesB]
theorem aRun_append (a b:List ByteArray) (i:Nat) (σ:AsK):aRun (a++b) i σ=match aRun a i σ with| .error e=> .error e| .ok x=>aRun b (i+a.length) x:=by
 induction a generalizing i σ with
 |nil=>rfl
 |cons s l ih=>
  rw [List.cons_append,aRun,aRun]
  cases AsK.doLine { σ with line:=i+1 } s with
  |error e=>rfl
  |ok x=>
   simp only
   rw [ih]
   simp only [List.length_cons]
   rw [show i+1+l.length=i+(l.length+1) by omega]
theorem run_ok {l:List ByteArray} {i:Nat} {σ x:AsK} {s:ByteArray} {r:Except Nat AsK} (h:AsK.doLine { σ with line:=i+1 } s= .ok x) (h2:aRun l (i+1) x=r):aRun (s::l) i σ=r:=by
 rw [aRun,h]
 exact h2
def lClass:List UInt8:= [99,108,97,115,115,32,65,32,115,117,112,101,114]
def lMeth:List UInt8:= [109,101,116,104,111,100,32,109,32,40,41,86,32,115,116,97,116,105,99]
def lRet:List UInt8:= [114,101,116,117,114,110]
def lEnd:List UInt8:= [101,110,100]
def poolS:List Ko:= [⟨1,⟨#[65]⟩,0,0,0⟩,⟨7,⟨#[]⟩,0,1,0⟩,⟨1,⟨#[106,97,118,97,47,108,97,110,103,47,79,98,106,101,99,116]⟩,0,0,0⟩,⟨7,⟨#[]⟩,0,3,0⟩,⟨1,⟨#[109]⟩,0,0,0⟩,⟨1,⟨#[40,41,86]⟩,0,0,0⟩,⟨1,⟨#[67,111,100,101]⟩,0,0,0⟩]
def stS (pool:List Ko) (line:Nat) (first:Bool) (code:List UInt8):AsK:=⟨⟨0,52,pool,32,2,4, [], [], []⟩,5,line,some ⟨⟨8,5,6,true,8,4,code, []⟩,2,first, [], [], []⟩⟩
theorem head_run (l:List ByteArray):aRun (bytesB lClass::bytesB lMeth::l) 0 .new=aRun l 2 (stS poolS 2 true []):=by kernel_rfl
def clsS (pool:List Ko) (code:List UInt8):ClassV:=⟨0,52,pool,32,2,4, [], [], [⟨8,5,6,true,8,4,code, []⟩]⟩
theorem long_clsS (pool:List Ko) (code:List UInt8) (hp:pool.length≤1024) (hc:code.length≤4096):longC (clsS pool code)=false:=by
 have h1: ¬1024<pool.length:=by omega
 have h2: ¬4096<code.length:=by omega
 simp [longC,clsS,longM,h1,h2]
theorem asm_made {ck:ClassV→Int} {text:ByteArray} {ls:List (List UInt8)} {σ:AsK} (ht:text.data.toList=joinL ls) (h: ∀l∈ls,(10:UInt8)∉l) (hb:text.size≤262144) (hl:ls.length≤8000) (hr:aRun (ls.map bytesB) 0 .new= .ok σ) (hm:σ.m=none) (hp:σ.part≠0)
  (hc:ck σ.object.c=0):aAsm ck text= .ok σ.object.c:=by
 unfold aAsm
 rw [alines_join ht h,if_neg (by simp;omega),hr]
 simp only [hm]
 rw [if_neg hp]
 simp [hc]
theorem firstE_append (f:Ko→Int) (a b:List Ko) (ha:firstE f a=0) (hb:firstE f b=0):firstE f (a++b)=0:=by
 induction a with
 |nil=>exact hb
 |cons x a ih=>
  rw [List.cons_append,firstE]
  rw [firstE] at ha
  split at ha
  ·rename_i h;exact absurd ha h
  ·rename_i h
   rw [if_neg h]
   exact ih ha
theorem check_clsS (t:List Ko) (ht:firstE (conF (poolS++t)) t=0) (hl:t.length≤1000) (u:UInt8) (v:List UInt8) (hc:(u::v).length≤4096):checkF (clsS (poolS++t) (u::v))=0:=by
 unfold checkF checkE
 rw [long_clsS _ _ (by simp [poolS];omega) hc,if_neg (by simp)]
 have hmaj: ¬((clsS (poolS++t) (u::v)).major<45∨52< (clsS (poolS++t) (u::v)).major):=by
  show¬((52:Int) <45∨(52:Int) <52)
  decide
 rw [if_neg hmaj]
 have hS:firstE (conF (poolS++t)) poolS=0:=by kernel_rfl
 have hf:firstE (conF (clsS (poolS++t) (u::v)).pool) (clsS (poolS++t) (u::v)).pool=0:=firstE_append _ _ _ hS ht
 rw [if_neg (show¬(firstE (conF (clsS (poolS++t) (u::v)).pool) (clsS (poolS++t) (u::v)).pool≠0) from fun h=>h hf)]
 show(_:Int)=0
 kernel_rfl
theorem joinL_len (ls:List (List UInt8)):(joinL ls).length=(ls.map (·.length)).sum+ls.length:=by
 induction ls with
 |nil=>rfl
 |cons a b ih=>rw [joinL_cons];simp [ih];omega
def aliveT:ByteArray:=⟨#[99,108,97,115,115,32,65,32,112,117,98,108,105,99,32,115,117,112,101,114,10,102,105,101,108,100,32,120,32,73,32,112,117,98,108,105,99,32,115,116,97,116,105,99,32,61,32,55,10,109,101,116,104,111,100,32,60,99,108,105,110,105,116,62,32,40,41,86,32,115,116,97,116,105,99,10,103,101,116,115,116,97,116,105,99,32,65,32,120,32,73,10,105,110,118,111,107,101,115,116,97,116,105,99,32,118,109,47,83,121,115,32,112,114,105,110,116,32,40,73,41,86,10,114,101,116,117,114,110,10,101,110,100,10]⟩
def aliveOk:Bool:=match aAsm checkF aliveT with
 | .error _=>false
 | .ok c=>decide (c.pool.length=19)&&(match c.mths with| [m]=>decide (m.code= [178,0,13,184,0,19,177]) |_=>false)
theorem alive_plain:aliveOk=true:=by decide+kernel
theorem empty_plain:aAsm checkF ⟨#[]⟩= .error (0,60):=by kernel_rfl
end Go.Proofs.YtlcidkiplidamaaGreatDoor
