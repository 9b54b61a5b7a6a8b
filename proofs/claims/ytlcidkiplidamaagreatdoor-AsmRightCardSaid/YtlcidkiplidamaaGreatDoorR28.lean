/-
  What the laws rest on, part 28: walks of the program's functions and plain laws. Conditions: none but those that each theorem names.
-/
import Derived.Test.YtlcidkiplidamaaGreatDoorR26
import Derived.Test.YtlcidkiplidamaaGreatDoorR25
import Derived.Test.YtlcidkiplidamaaGreatDoorR27
import Derived.Deep.AppendLies
import Derived.Deep.RegionHeld2
import Derived.Laws.EntriesVeiled
import Derived.WalkMore
import Derived.Lib.SmallJoins
import Derived.RegionTactic
import Derived.Deep.Cut
import Derived.Deep.CutRange
import Derived.Deep.DeepCutAuto
set_option linter.unusedSimpArgs false
set_option linter.unusedVariables false
set_option maxRecDepth 100000
set_option maxHeartbeats 8000000
namespace Go.Proofs.YtlcidkiplidamaaGreatDoor
open Go Go.RowKit Lib Go.Maps
theorem aDigits_range {l:List UInt8} {lo hi v:Int} (h:aDigits l lo hi=some v):lo≤v∧v≤hi:=by
 unfold aDigits at h
 simp only at h
 generalize (if Lib.hasPrefix l [45]=true then List.drop 1 l else l)=s at h
 generalize (if Lib.hasPrefix l [45]=true then -(digN s:Int) else(digN s:Int))=u at h
 split at h
 ·cases h
 ·split at h
  ·split at h
   ·injection h with h
    subst h
    assumption
   ·cases h
  ·cases h
def itLeft (it:Nat) (w:World):Nat:=match w.heap[it]? with
 |some (.stringIter s p)=>s.size - p
 |_=>0
theorem itLeft_lt {w w':World} {it p:Nat} {s:ByteArray} (h:w.heap[it]?=some (.stringIter s p)) (h':w'.heap[it]?=some (.stringIter s (p+1))) (hp:p<s.size):itLeft it w'<itLeft it w:=by
 unfold itLeft
 rw [h,h']
 show s.size - (p+1) <s.size - p
 omega
theorem forms_le {fo:List UInt8} (h:fo∈formsA):fo.length≤2:=(show∀f∈formsA,f.length≤2 by decide) fo h
theorem forms_in {fo:List UInt8} (h:fo∈formsA) {l:UInt8} {k:Nat} (hl:fo[k]?=some l):l=98∨l=117∨l=115∨l=106∨l=102∨l=109∨l=99∨l=105:=by
 have:=(show∀f∈formsA, ∀l∈f,l=98∨l=117∨l=115∨l=106∨l=102∨l=109∨l=99∨l=105 by decide) fo h l (List.mem_of_getElem? hl)
 exact this
def wantL (l:UInt8):Nat:=if l=102∨l=109∨l=105 then 3 else 1
theorem want_take {fo:List UInt8} {k:Nat} {l:UInt8} (h:fo[k]?=some l):aWant (fo.take (k+1))=aWant (fo.take k)+wantL l:=by
 rw [List.take_add_one,h]
 simp [aWant,wantL]
theorem want_drop {fo:List UInt8} {k:Nat} {l:UInt8} (h:fo[k]?=some l):fo.drop k=l::fo.drop (k+1)∧aWant (fo.drop k)=wantL l+aWant (fo.drop (k+1)):=by
 have hlt:=(List.getElem?_eq_some_iff.1 h).1
 have e:fo.drop k=l::fo.drop (k+1):=by rw [List.drop_eq_getElem_cons hlt,(List.getElem?_eq_some_iff.1 h).2]
 exact⟨e,by rw [e];rfl⟩
theorem want_le {fo:List UInt8}:aWant fo≤3*fo.length:=by
 induction fo with
 |nil=>exact Nat.le_refl _
 |cons a l ih=>
  have:aWant (a::l)=wantL a+aWant l:=rfl
  rw [this,List.length_cons]
  unfold wantL
  split<;>omega
structure Ops (σ:AsK) (m:AsM) (ws:List ByteArray) (nm fo:List UInt8) (N pos:Nat) (x:AsI):Prop where
 le:pos≤fo.length
 go:σ.instr m ws=(aOpers nm m.mv.code.length (fo.drop pos) x).map fun x=> { x.k with m:=some (mAt m x) }
 rest:x.rest.length=aWant (fo.drop pos)
 sm: ∀s∈x.rest,s.size≤65536
 code:x.code.length≤N+1+8*pos
 jl:x.jumps.length≤N+pos
 ks:AsSm x.k (N+8*pos)
 ln:x.k.line=σ.line
theorem Ops.done {σ:AsK} {m:AsM} {ws:List ByteArray} {nm fo:List UInt8} {N pos:Nat} {x:AsI} (h:Ops σ m ws nm fo N pos x) (hp:fo.length≤pos):σ.instr m ws=some { x.k with m:=some (mAt m x) }:=by
 rw [h.go,List.drop_of_length_le hp]
 rfl
theorem Ops.bad {σ:AsK} {m:AsM} {ws:List ByteArray} {nm fo:List UInt8} {N pos:Nat} {x:AsI} (h:Ops σ m ws nm fo N pos x) {l:UInt8} (hl:fo[pos]?=some l) (ho:aOper nm m.mv.code.length x l=none):σ.instr m ws=none:=by
 rw [h.go,(want_drop hl).1,aOpers,ho]
 rfl
theorem Ops.op {σ:AsK} {m:AsM} {ws:List ByteArray} {nm fo:List UInt8} {N pos:Nat} {x x':AsI} (h:Ops σ m ws nm fo N pos x) {l:UInt8} (hl:fo[pos]?=some l) (ho:aOper nm m.mv.code.length x l=some x')
  (hr:x'.rest=x.rest.drop (wantL l)) (hc:x'.code.length≤x.code.length+4) (hj:x'.jumps.length≤x.jumps.length+1) (hk:AsSm x'.k (N+8*pos+8)) (hn:x'.k.line=x.k.line):Ops σ m ws nm fo N (pos+1) x' where
 le:=(List.getElem?_eq_some_iff.1 hl).1
 go:=by rw [h.go,(want_drop hl).1,aOpers,ho];rfl
 rest:=by rw [hr,List.length_drop,h.rest,(want_drop hl).2];omega
 sm:=fun s hs=>h.sm s (List.mem_of_mem_drop (hr▸hs))
 code:=by have:=h.code;omega
 jl:=by have:=h.jl;omega
 ks:=by rw [Nat.mul_add];exact hk
 ln:=hn.trans h.ln
theorem Ops.one {σ:AsK} {m:AsM} {ws:List ByteArray} {nm fo:List UInt8} {N pos:Nat} {x:AsI} (h:Ops σ m ws nm fo N pos x) {l:UInt8} (hl:fo[pos]?=some l): ∃s r,x.rest=s::r∧s.size≤65536:=by
 have h1:=h.rest
 rw [(want_drop hl).2] at h1
 have h2:1≤wantL l:=by unfold wantL;split<;>omega
 have h3:=h.sm
 cases hx:x.rest with
 |nil=>rw [hx] at h1;simp at h1;omega
 |cons s r=>exact⟨s,r,rfl,h3 s (by rw [hx];simp)⟩
theorem Ops.three {σ:AsK} {m:AsM} {ws:List ByteArray} {nm fo:List UInt8} {N pos:Nat} {x:AsI} (h:Ops σ m ws nm fo N pos x) {l:UInt8} (hl:fo[pos]?=some l) (hw:wantL l=3): ∃s t u r,x.rest=s::t::u::r∧s.size≤65536∧t.size≤65536∧u.size≤65536:=by
 have h1:=h.rest
 rw [(want_drop hl).2,hw] at h1
 have h3:=h.sm
 match hx:x.rest with
 | []=>rw [hx] at h1;have:([]:List ByteArray).length=0:=rfl;omega
 | [a]=>rw [hx] at h1;simp at h1;omega
 | [a,b]=>rw [hx] at h1;simp at h1;omega
 |s::t::u::r=>exact⟨s,t,u,r,rfl,h3 s (by rw [hx];simp),h3 t (by rw [hx];simp),h3 u (by rw [hx];simp)⟩
theorem instr_all:InstrC:=by
 intro ρ B kb xb σ V m U A n cap ws w N hK hV hM hw hz hn hS hMS hN
 obtain⟨c,hc⟩: ∃c,codeOf (ws.headD ⟨#[]⟩).data.toList=c:=⟨_,rfl⟩
 obtain⟨nm,hnm⟩: ∃nm,(rowOf c).1=nm:=⟨_,rfl⟩
 obtain⟨fo,hf⟩: ∃fo,(rowOf c).2=fo:=⟨_,rfl⟩
 have hfm:=rowA_forms c
 rw [hf] at hfm
 have hfl:=forms_le hfm
 obtain⟨b,off,hA,hb,hub,hcc⟩:=hw.hat hn
 subst hA
 have hle:=hw.le
 have hmx:=hw.max
 have hnw:=hw.len
 subst hnw
 have hn1:(1:Int)≤ws.length:=by omega
 obtain⟨X,hX⟩: ∃X,(if cap=1 then(some ⟨b,off,none⟩:Option Addr) else some ⟨b,off+1,none⟩)=X:=⟨_,rfl⟩
 have HWX:=Lib.hid (show WdA w (Un ρ) X (ws.length - 1) (cap - 1) (ws.drop 1) by
  rw [←hX]
  by_cases h1:cap=1
  ·have:=hw.rest0 (some ⟨b,off,none⟩) (show cap≤1 by omega)
   rw [if_pos h1,show ws.length - 1=0 by omega,show cap - 1=0 by omega]
   exact this
  ·rw [if_neg h1]
   exact hw.rest1 rfl (by omega))
 obtain⟨s0,hs0⟩: ∃s,ws[0]?=some s:=⟨_,List.getElem?_eq_getElem hn⟩
 have hh:ws.headD ⟨#[]⟩=s0:=by
  cases ws with
  |nil=>cases hs0
  |cons a l=>cases hs0;rfl
 have c0:=hcc 0 s0 hs0
 rw [Nat.add_zero] at c0
 have z0:=hz s0 (List.mem_of_getElem? hs0)
 have hc':codeOf s0.data.toList=c:=by rw [←hh];exact hc
 have HFI:=Lib.hid (show∀W:World,Calls Tryz.prog 129 #[.string s0] W fun e w'=>e= .returned (.int .i64 c)∧Below W.heap.size W w' from fun W=>by
  have:=opsfind_any s0 W
  rw [ByteArray.toList_eq,hc'] at this
  exact this)
 have HFO:=Lib.hid (show∀W:World,Calls Tryz.prog 130 #[.int .i64 c] W fun e w'=>e= .returned (.tuple #[.string ⟨nm.toArray⟩, .string ⟨fo.toArray⟩])∧Below W.heap.size W w' from fun W=>by
  have:=opsform_any c W
  rw [hnm,hf] at this
  exact this)
 have HI5: -9223372036854775808≤c∧c≤9223372036854775807:=by
  have:=codeOf_range (ws.headD ⟨#[]⟩).data.toList
  rw [hc] at this
  omega
 have H:=Lib.hid hK
 have HV:=Lib.hid hV
 have HM:=Lib.hid hM
 have HZ:=Lib.hid hz
 have HS:=Lib.hid hS
 have HMS:=Lib.hid hMS
 have HC:=Lib.hid hc
 have HNM:=Lib.hid hnm
 have HF:=Lib.hid hf
 have HFM:=Lib.hid hfm
 have hB:=hK.hB
 have hkl:=hK.box.lt
 have hxl:=hM.box.lt
 have c12:=hK.box.cell 12 rfl
 rw [hV] at c12
 obtain⟨y1,y2,y3,y4,y5,y6,y7,y8,y9,y10,y11,y12⟩:=far kb w.heap.size hkl
 obtain⟨x1,x2,x3,x4,x5,x6,x7,x8,x9,x10,x11,x12⟩:=far b w.heap.size hb
 clear hK hV hM hw hz hS hMS hcc hs0 hh hc hc' hnm hf hfm
 go_enter Tryz.func57,Tryz.ntmps57
 go_wp2_with (go_at_call 129;refine stop_here ?_)
 refine go_on ?_
 refine(HFI.out _).mono ?_
 rintro e w1 ⟨rfl,hb1⟩
 have B1:=Lib.hid ((((Below.refl w.heap.size w).alloc (Nat.le_refl _) (.cells #[.pointer (some ⟨kb,0,none⟩)] 63)).alloc (by simp) (.cells #[.pointer (some ⟨xb,0,none⟩)] 65)).trans (hb1.mono (by simp;omega)))
 have b11:=Lib.hid (show Bx w1 w.heap.size [.pointer (some ⟨kb,0,none⟩)] 63 from((bx_new w [.pointer (some ⟨kb,0,none⟩)] 63).below ((Below.refl _ _).alloc (Nat.le_refl _) (.cells #[.pointer (some ⟨xb,0,none⟩)] 65)) (by simp)).below hb1 (by simp;omega))
 have b41:=Lib.hid (show Bx w1 (w.heap.size+1) [.pointer (some ⟨xb,0,none⟩)] 65 from(bx_new_at (w.alloc (.cells #[.pointer (some ⟨kb,0,none⟩)] 63)) [.pointer (some ⟨xb,0,none⟩)] 65 (w.heap.size+1) (by simp)).below hb1 (by simp))
 have hz1:=hb1.size
 simp only [World.size_alloc] at hz1
 clear hb1 c12
 have d1:=b11.out.cell 0 rfl
 by_cases hc0:c<0
 ·have hd0:decide ((0:Int)≤c)=false:=by rw [decide_eq_false_iff_not];omega
  have HP:=Lib.hid (show σ.instr m ws=none from instr_neg (by rw [HC.out];exact hc0))
  go_wp2_with (go_at_call 26;refine stop_here ?_)
  refine go_on ?_
  refine(must_no kb _ σ.line w1 (B1.out.block kb hkl|>.trans H.out.box) rfl).mono ?_
  rintro e w1' ⟨rfl,rfl⟩
  go_wp2_with fail
  exact(show _∧_ from⟨rfl,lpost_none HP.out (B1.out.mono hB)⟩)
 have hd0:decide ((0:Int)≤c)=true:=by rw [decide_eq_true_eq];omega
 go_wp2_with (go_at_call 26;refine stop_here ?_)
 refine go_on ?_
 refine(must_yes kb _ σ.line w1 (B1.out.block kb hkl|>.trans H.out.box) rfl).mono ?_
 rintro e w1' ⟨rfl,rfl⟩
 go_wp2_with (go_at_call 130;refine stop_here ?_)
 refine go_on ?_
 refine(HFO.out _).mono ?_
 rintro e w2 ⟨rfl,hb2⟩
 have B2:=Lib.hid (B1.out.trans (hb2.mono (by omega)))
 have b12:=Lib.hid (b11.out.below hb2 b11.out.lt)
 have b42:=Lib.hid (b41.out.below hb2 b41.out.lt)
 have hz2:=hb2.size
 clear hb2 d1
 go_wp2_with fail
 obtain⟨w3,hw3⟩: ∃W,W=(w2.alloc (.cells #[.slice X (ws.length - 1) (cap - 1)] 43)).alloc (.stringIter ⟨fo.toArray⟩ 0):=⟨_,rfl⟩
 have B3:=(B2.out.alloc (show w.heap.size≤w2.heap.size by omega) (.cells #[.slice X (ws.length - 1) (cap - 1)] 43)).alloc (by simp;omega) (.stringIter ⟨fo.toArray⟩ 0)
 have HB3:=(((Below.refl w2.heap.size w2).alloc (Nat.le_refl _) (.cells #[.slice X (ws.length - 1) (cap - 1)] 43)).alloc (by simp) (.stringIter ⟨fo.toArray⟩ 0))
 have HI0:=Lib.hid (show InS w ρ B kb xb w.heap.size (w.heap.size+1) w2.heap.size (w2.heap.size+1) ⟨fo.toArray⟩ 0 m ⟨σ,m.mv.code,m.jumps,ws.drop 1⟩ w3 from InS.start H.out HV.out HM.out (show Below w.heap.size w w3 by rw [hw3];exact B3) HWX.out (by rw [hw3];exact b12.out.below HB3 b12.out.lt) (by rw [hw3];exact b42.out.below HB3 b42.out.lt) (by rw [hw3];exact(bx_new w2 _ _).below ((Below.refl _ _).alloc (Nat.le_refl _) _) (by simp)) (by rw [hw3];exact iter_heap_at _ _ (by simp) _ _) (Nat.le_refl _) (by omega) (by omega) (by omega) (by omega) (by omega) (by omega) (by omega) (by omega))
 clear B3 HB3 hX
 first|rw [←hw3] | (rw [show(w2.alloc (.cells #[.slice X (ws.length - 1) (cap - 1)] 43)).iter ⟨fo.toArray⟩ 0=w3 from hw3.symm])
 clear hw3
 go_loopw [10] (fun i wr=> ∃pos:Nat,pos≤fo.length∧i= .int .i64 (aWant (fo.take pos))∧Hid (InS w ρ B kb xb w.heap.size (w.heap.size+1) w2.heap.size (w2.heap.size+1) ⟨fo.toArray⟩ pos m ⟨σ,m.mv.code,m.jumps,ws.drop 1⟩ wr)) (fun i _=>100 - (RowKit.intOf i).toNat)
 case atStart=>exact⟨0,by omega,rfl,HI0⟩
 case round=>
  obtain⟨pos,hp,rfl,HIr⟩:=hrel
  obtain⟨W,hW⟩: ∃W,aWant (fo.take pos)=W:=⟨_,rfl⟩
  have hWl:W≤6:=by
   have:=want_le (fo:=fo.take pos)
   rw [List.length_take] at this
   omega
  rw [hW]
  by_cases hlt:pos<fo.length
  ·obtain⟨l,hl⟩: ∃l,fo[pos]?=some l:=⟨_,List.getElem?_eq_getElem hlt⟩
   have hwt:=want_take hl
   rw [hW] at hwt
   have HWT:=Lib.hid hwt
   have HL:=Lib.hid hl
   have hin:=forms_in HFM.out hl
   clear hW hwt hl
   have hw1:IntKind.i64.wrap ((W:Int)+1)=((W+1:Nat):Int):=by rw [IntWalk.i64_in _ (by omega)];omega
   have hw3:IntKind.i64.wrap (((W+1:Nat):Int)+2)=((W+3:Nat):Int):=by rw [IntWalk.i64_in _ (by omega)];omega
   rcases hin with rfl|rfl|rfl|rfl|rfl|rfl|rfl|rfl
   all_goals
    go_wp2_with (first| (refine wpl_next (s:=⟨fo.toArray⟩) (pos:=pos) rfl rfl rfl HIr.out.ib 98 HL.out (by omega) ?_;refine stop_here ?_) | (refine wpl_next (s:=⟨fo.toArray⟩) (pos:=pos) rfl rfl rfl HIr.out.ib 117 HL.out (by omega) ?_;refine stop_here ?_) | (refine wpl_next (s:=⟨fo.toArray⟩) (pos:=pos) rfl rfl rfl HIr.out.ib 115 HL.out (by omega) ?_;refine stop_here ?_) | (refine wpl_next (s:=⟨fo.toArray⟩) (pos:=pos) rfl rfl rfl HIr.out.ib 106 HL.out (by omega) ?_;refine stop_here ?_) | (refine wpl_next (s:=⟨fo.toArray⟩) (pos:=pos) rfl rfl rfl HIr.out.ib 102 HL.out (by omega) ?_;refine stop_here ?_) | (refine wpl_next (s:=⟨fo.toArray⟩) (pos:=pos) rfl rfl rfl HIr.out.ib 109 HL.out (by omega) ?_;refine stop_here ?_) | (refine wpl_next (s:=⟨fo.toArray⟩) (pos:=pos) rfl rfl rfl HIr.out.ib 99 HL.out (by omega) ?_;refine stop_here ?_) | (refine wpl_next (s:=⟨fo.toArray⟩) (pos:=pos) rfl rfl rfl HIr.out.ib 105 HL.out (by omega) ?_;refine stop_here ?_))
    refine go_on ?_
    intro w6a hk hcl2 hfr hsz2 hh hbl
    have HI1:=Lib.hid (HIr.out.turn hk hh hbl.out)
    clear hk hcl2 hfr hsz2 hh hbl
    go_wp2_with fail
    go_roundw
    case rel=>exact⟨pos+1,by omega,by rw [HWT.out];rfl,HI1⟩
    case measure=>simp [RowKit.intOf];omega
  ·obtain rfl:pos=fo.length:=by omega
   rw [List.take_length] at hW
   obtain⟨ρ',V',U',A8,n8,c8,e8⟩:=HIr.out.ex
   have d1:=HIr.out.b1.cell 0 rfl
   have d4:=HIr.out.b4.cell 0 rfl
   have d8:=e8.q.cell 0 rfl
   obtain rfl:n8=ws.length - 1:=by rw [e8.wd.len];simp
   obtain⟨Ac,cc,hcv⟩:=own_slice e8.mt.code.1
   have x6:wr.cell? ⟨xb,6,none⟩=some (.slice Ac m.mv.code.length cc):=by rw [←show U'.cv= .slice Ac m.mv.code.length cc from hcv];exact e8.mt.box.cell 6 rfl
   clear e8 hcv
   by_cases hlen:ws.length - 1=W
   case neg=>
    have hq:(((ws.length - 1:Nat):Int)==(W:Int))=false:=by rw [beq_eq_false_iff_ne];omega
    have HP:=Lib.hid (show σ.instr m ws=none from instr_len HC.out HF.out (by rw [hW];exact hlen))
    clear hlen hW
    go_wp2_with (first| (refine wpl_next_end (s:=⟨fo.toArray⟩) (pos:=fo.length) rfl rfl rfl HIr.out.ib (Nat.le_of_eq rfl) ?_) | (go_at_call 26;refine stop_here ?_))
    refine go_on ?_
    refine HIr.out.mustN.mono ?_
    rintro e w4 ⟨rfl,rfl⟩
    go_wp2_with fail
    exact(show _∧_ from⟨rfl,HIr.out.wrong HP.out⟩)
   have hq:(((ws.length - 1:Nat):Int)==(W:Int))=true:=by rw [beq_iff_eq];omega
   have HLEN:=Lib.hid (show ws.length - 1=aWant fo by rw [hW];exact hlen)
   clear hlen hW
   go_wp2_with (first| (refine wpl_next_end (s:=⟨fo.toArray⟩) (pos:=fo.length) rfl rfl rfl HIr.out.ib (Nat.le_of_eq rfl) ?_) | (go_at_call 26;refine stop_here ?_))
   refine go_on ?_
   refine HIr.out.mustY.mono ?_
   rintro e w4 ⟨rfl,rfl⟩
   clear d1 d8
   go_wp2_with (go_at_call 132;refine stop_here ?_)
   refine go_on ?_
   refine(HIr.out.put1 c (by show m.mv.code.length≤999000;have:=HMS.out.code;omega) HI5).mono ?_
   rintro e w5 ⟨rfl,hi⟩
   have HI2:=Lib.hid (show InS w ρ B kb xb w.heap.size (w.heap.size+1) w2.heap.size (w2.heap.size+1) ⟨fo.toArray⟩ fo.length m ⟨σ,m.mv.code++ [aByte c],m.jumps,ws.drop 1⟩ w5 from hi)
   clear hi d4 x6
   have hwl:w2.heap.size<w5.heap.size:=by obtain⟨ρ5,V5,U5,A5,n5,c5,e5⟩:=HI2.out.ex;exact e5.q.lt
   have HX0:=Lib.hid (show Ops σ m ws nm fo N 0 ⟨σ,m.mv.code++ [aByte c],m.jumps,ws.drop 1⟩ from⟨by omega,instr_go HC.out (by omega) HNM.out HF.out HLEN.out,by rw [List.drop_zero, ←HLEN.out,List.length_drop],fun s hs=>HZ.out s (List.mem_of_mem_drop hs),by have:=HMS.out.code;rw [List.length_append,List.length_singleton];show m.mv.code.length+1≤_;omega,HMS.out.jumps,HS.out,rfl⟩)
   go_wp2_with fail
   have HI3:=Lib.hid (show InS w ρ B kb xb w.heap.size (w.heap.size+1) w2.heap.size w5.heap.size ⟨fo.toArray⟩ 0 m ⟨σ,m.mv.code++ [aByte c],m.jumps,ws.drop 1⟩ (w5.iter ⟨fo.toArray⟩ 0) from HI2.out.again ⟨fo.toArray⟩ w5.heap.size rfl)
   obtain⟨w6,hw6⟩: ∃W,W=w5.iter ⟨fo.toArray⟩ 0:=⟨_,rfl⟩
   rw [←hw6]
   replace HI3:Hid (InS w ρ B kb xb w.heap.size (w.heap.size+1) w2.heap.size w5.heap.size ⟨fo.toArray⟩ 0 m ⟨σ,m.mv.code++ [aByte c],m.jumps,ws.drop 1⟩ w6):=by rw [hw6];exact HI3
   clear hw6 HI2 HIr
   go_loopw [16] (fun _ wr=> ∃(pos:Nat) (x:AsI),Hid (InS w ρ B kb xb w.heap.size (w.heap.size+1) w2.heap.size w5.heap.size ⟨fo.toArray⟩ pos m x wr)∧Hid (Ops σ m ws nm fo N pos x)) (fun _ wr=>itLeft w5.heap.size wr)
   case atStart=>exact⟨0,_,HI3,HX0⟩
   case round=>
    obtain⟨pos,x,HI,HX⟩:=hrel
    have hp:=HX.out.le
    by_cases hlt:pos<fo.length
    ·obtain⟨l,hl⟩: ∃l,fo[pos]?=some l:=⟨_,List.getElem?_eq_getElem hlt⟩
     have hin:=forms_in HFM.out hl
     have hcl:=HX.out.code
     have hpl:=HX.out.ks.npool
     have hjl:=HX.out.jl
     have HL:=Lib.hid hl
     clear hl
     rcases hin with rfl|rfl|rfl|rfl|rfl|rfl|rfl|rfl
     ·go_wp2_with (refine wpl_next (s:=⟨fo.toArray⟩) (pos:=pos) rfl rfl rfl HI.out.ib 98 (show _ from HL.out) (by omega) ?_;refine stop_here ?_)
      refine go_on ?_
      intro w6a hk hcl2 hfr hsz2 hh hbl
      have HI1:=Lib.hid (HI.out.turn hk hh hbl.out)
      clear hk hcl2 hfr hsz2 hh hbl
      obtain⟨s,r,hr,hsz⟩:=HX.out.one HL.out
      have HR:=Lib.hid hr
      clear hr
      have HID:=Lib.hid (HI1.out.below ((Below.refl w6a.heap.size w6a).drew))
      go_wp2_with fail
      go_region_held2 (fun w'=>w'.cell? ⟨w.heap.size,0,none⟩=some (.pointer (some ⟨kb,0,none⟩))) (first|exact HID.out.b1.cell 0 rfl|exact N1.out.b1.cell 0 rfl|exact N2.out.b1.cell 0 rfl|exact N3.out.b1.cell 0 rfl) (first
       | (go_simp;go_at_call 131
          refine(HID.out.next HR.out).mono ?_
          rintro e w11 ⟨rfl,hi⟩
          have N1:=Lib.hid hi
          clear hi
          dsimp only)
       | (go_simp;go_at_call 53
          refine(N1.out.digits s (-128) 127 hsz (by omega)).mono ?_
          intro e w12 hq
          rcases hq.symm with⟨hv,rfl,hi⟩ | ⟨v,hv,rfl,hi⟩
          (have HP:=Lib.hid (HX.out.bad HL.out (by rw [oper_b HR.out,hv];rfl));have HW:=Lib.hid hi;clear hq hv hi;dsimp only;exact(show _∧_ from⟨rfl,by rw [HX.out.ln];exact HW.out.wrong HP.out⟩))
          have N2:=Lib.hid hi
          have HD:=Lib.hid hv
          have hvr:=aDigits_range hv
          clear hi hv hq
          (try dsimp only))
       | (go_simp;go_at_call 132
          refine(N2.out.put1 v (by show x.code.length≤999000;omega) (by omega)).mono ?_
          rintro e w13 ⟨rfl,hi⟩
          have N3:=Lib.hid hi
          clear hi
          dsimp only))
      go_wp2_with fail
      go_roundw
      case rel=>exact⟨pos+1,_,N3,Lib.hid (HX.out.op HL.out (by rw [oper_b HR.out,HD.out];rfl) (by rw [HR.out];rfl) (by show List.length (_++_)≤_;simp [aBe2]) (Nat.le_succ _) (HX.out.ks.mono (by omega)) rfl)⟩
      case measure=>exact itLeft_lt HI.out.ib N3.out.ib (show pos<fo.toArray.size by simpa using hlt)
     ·obtain⟨q,hq0⟩: ∃q,(nm== [108,100,99])=q:=⟨_,rfl⟩
      have HQ0:=Lib.hid hq0
      go_wp2_with (refine wpl_next (s:=⟨fo.toArray⟩) (pos:=pos) rfl rfl rfl HI.out.ib 117 (show _ from HL.out) (by omega) ?_;refine stop_here ?_)
      refine go_on ?_
      intro w6a hk hcl2 hfr hsz2 hh hbl
      have HI1:=Lib.hid (HI.out.turn hk hh hbl.out)
      clear hk hcl2 hfr hsz2 hh hbl
      obtain⟨s,r,hr,hsz⟩:=HX.out.one HL.out
      have HR:=Lib.hid hr
      clear hr
      have HID:=Lib.hid (HI1.out.below ((Below.refl w6a.heap.size w6a).drew))
      go_upto_region 32 with fail
      go_cut [130] (fun v wx=>v= .bool (!q)∧wx=w6a)
      case first=>
       go_wp2_with fail
       go_meet
       exact⟨by rw [←HQ0.out],rfl⟩
      case rest=>
      obtain⟨rfl,rfl⟩:=hcut
      clear hq0
      cases q
      case false=>
       have HLD:=Lib.hid (show nm≠ [108,100,99] from fun h=>by have:=HQ0.out;rw [h] at this;cases this)
       go_wp2_with fail
       go_region_held2 (fun w'=>w'.cell? ⟨w.heap.size,0,none⟩=some (.pointer (some ⟨kb,0,none⟩))) (first|exact HID.out.b1.cell 0 rfl|exact N1.out.b1.cell 0 rfl|exact N2.out.b1.cell 0 rfl|exact N3.out.b1.cell 0 rfl) (first
        | (go_simp;go_at_call 131
           refine(HID.out.next HR.out).mono ?_
           rintro e w11 ⟨rfl,hi⟩
           have N1:=Lib.hid hi
           clear hi
           dsimp only)
        | (go_simp;go_at_call 53
           refine(N1.out.digits s (0) 255 hsz (by omega)).mono ?_
           intro e w12 hq
           rcases hq.symm with⟨hv,rfl,hi⟩ | ⟨v,hv,rfl,hi⟩
           (have HP:=Lib.hid (HX.out.bad HL.out (by rw [oper_u HR.out HLD.out,hv];rfl));have HW:=Lib.hid hi;clear hq hv hi;dsimp only;exact(show _∧_ from⟨rfl,by rw [HX.out.ln];exact HW.out.wrong HP.out⟩))
           have N2:=Lib.hid hi
           have HD:=Lib.hid hv
           have hvr:=aDigits_range hv
           clear hi hv hq
           (try dsimp only))
        | (go_simp;go_at_call 132
           refine(N2.out.put1 v (by show x.code.length≤999000;omega) (by omega)).mono ?_
           rintro e w13 ⟨rfl,hi⟩
           have N3:=Lib.hid hi
           clear hi
           dsimp only))
       go_wp2_with fail
       go_roundw
       case rel=>exact⟨pos+1,_,N3,Lib.hid (HX.out.op HL.out (by rw [oper_u HR.out HLD.out,HD.out];rfl) (by rw [HR.out];rfl) (by show List.length (_++_)≤_;simp [aBe2]) (Nat.le_succ _) (HX.out.ks.mono (by omega)) rfl)⟩
       case measure=>exact itLeft_lt HI.out.ib N3.out.ib (show pos<fo.toArray.size by simpa using hlt)
      have HLD:=Lib.hid (show nm= [108,100,99] from by have:=HQ0.out;simpa using this)
      go_wp2_with fail
      go_region_held2 (fun w'=>w'.cell? ⟨w.heap.size,0,none⟩=some (.pointer (some ⟨kb,0,none⟩))) (first|exact HID.out.b1.cell 0 rfl|exact N1.out.b1.cell 0 rfl|exact N2.out.b1.cell 0 rfl|exact N3.out.b1.cell 0 rfl) (first
       | (go_simp;go_at_call 131
          refine(HID.out.next HR.out).mono ?_
          rintro e w11 ⟨rfl,hi⟩
          have N1:=Lib.hid hi
          clear hi
          dsimp only)
       | (go_simp;go_at_call 53
          refine(N1.out.digits s (-2147483648) 2147483647 hsz (by omega)).mono ?_
          intro e w12 hq
          rcases hq.symm with⟨hv,rfl,hi⟩ | ⟨v,hv,rfl,hi⟩
          (have HP:=Lib.hid (HX.out.bad HL.out (by rw [oper_ldc HR.out HLD.out,hv];rfl));have HW:=Lib.hid hi;clear hq hv hi;dsimp only;exact(show _∧_ from⟨rfl,by rw [HX.out.ln];exact HW.out.wrong HP.out⟩))
          have N2:=Lib.hid hi
          have HD:=Lib.hid hv
          have hvr:=aDigits_range hv
          clear hi hv hq
          (try dsimp only))
       | (go_simp;go_at_call 133
          refine(N2.out.number v (by omega) (by show x.k.c.pool.length≤999000;omega)).mono ?_
          rintro e w13 ⟨rfl,hi⟩
          have N3:=Lib.hid hi
          clear hi
          dsimp only))
      have hnv:=number_small HX.out.ks hvr
      have d1:=N3.out.b1.cell 0 rfl
      obtain⟨K,hK⟩: ∃K,(x.k.number v).1=K:=⟨_,rfl⟩
      have HKK:=Lib.hid hK
      have hnv2:=hnv.2
      have HNS:=Lib.hid hnv.1
      rw [hK] at hnv2⊢
      clear hK hnv
      by_cases h256:K<256
      case neg=>
       have hq2:decide ((K:Int) <256)=false:=by rw [decide_eq_false_iff_not];omega
       go_wp2_with (go_at_call 26;refine stop_here ?_)
       refine go_on ?_
       refine N3.out.mustN.mono ?_
       rintro e w8 ⟨rfl,rfl⟩
       go_wp2_with fail
       exact(show _∧_ from⟨rfl,by rw [show(x.k.number v).2.line=x.k.line from rfl,HX.out.ln];exact N3.out.wrong (HX.out.bad HL.out (by rw [oper_ldc HR.out HLD.out,HD.out,Option.bind_some,HKK.out,if_neg h256]))⟩)
      have hq2:decide ((K:Int) <256)=true:=by rw [decide_eq_true_eq];omega
      go_wp2_with (go_at_call 26;refine stop_here ?_)
      refine go_on ?_
      refine N3.out.mustY.mono ?_
      rintro e w8 ⟨rfl,rfl⟩
      go_wp2_with (go_at_call 132;refine stop_here ?_)
      refine go_on ?_
      refine(N3.out.put1 (K:Int) (by show x.code.length≤999000;omega) (by omega)).mono ?_
      rintro e w9 ⟨rfl,hi⟩
      have N4:=Lib.hid hi
      clear hi
      go_wp2_with fail
      go_roundw
      case rel=>exact⟨pos+1,_,N4,Lib.hid (HX.out.op HL.out (by rw [oper_ldc HR.out HLD.out,HD.out,Option.bind_some,HKK.out,if_pos h256]) (by rw [HR.out];rfl) (by show List.length (_++_)≤_;simp [aBe2]) (Nat.le_succ _) (HNS.out.mono (by omega)) rfl)⟩
      case measure=>exact itLeft_lt HI.out.ib N4.out.ib (show pos<fo.toArray.size by simpa using hlt)
     ·go_wp2_with (refine wpl_next (s:=⟨fo.toArray⟩) (pos:=pos) rfl rfl rfl HI.out.ib 115 (show _ from HL.out) (by omega) ?_;refine stop_here ?_)
      refine go_on ?_
      intro w6a hk hcl2 hfr hsz2 hh hbl
      have HI1:=Lib.hid (HI.out.turn hk hh hbl.out)
      clear hk hcl2 hfr hsz2 hh hbl
      obtain⟨s,r,hr,hsz⟩:=HX.out.one HL.out
      have HR:=Lib.hid hr
      clear hr
      have HID:=Lib.hid (HI1.out.below ((Below.refl w6a.heap.size w6a).drew))
      go_wp2_with fail
      go_region_held2 (fun w'=>w'.cell? ⟨w.heap.size,0,none⟩=some (.pointer (some ⟨kb,0,none⟩))) (first|exact HID.out.b1.cell 0 rfl|exact N1.out.b1.cell 0 rfl|exact N2.out.b1.cell 0 rfl|exact N3.out.b1.cell 0 rfl) (first
       | (go_simp;go_at_call 131
          refine(HID.out.next HR.out).mono ?_
          rintro e w11 ⟨rfl,hi⟩
          have N1:=Lib.hid hi
          clear hi
          dsimp only)
       | (go_simp;go_at_call 53
          refine(N1.out.digits s (-32768) 32767 hsz (by omega)).mono ?_
          intro e w12 hq
          rcases hq.symm with⟨hv,rfl,hi⟩ | ⟨v,hv,rfl,hi⟩
          (have HP:=Lib.hid (HX.out.bad HL.out (by rw [oper_s HR.out,hv];rfl));have HW:=Lib.hid hi;clear hq hv hi;dsimp only;exact(show _∧_ from⟨rfl,by rw [HX.out.ln];exact HW.out.wrong HP.out⟩))
          have N2:=Lib.hid hi
          have HD:=Lib.hid hv
          have hvr:=aDigits_range hv
          clear hi hv hq
          (try dsimp only))
       | (go_simp;go_at_call 132
          refine(N2.out.put2 v (by show x.code.length≤999000;omega) (by omega)).mono ?_
          rintro e w13 ⟨rfl,hi⟩
          have N3:=Lib.hid hi
          clear hi
          dsimp only))
      go_wp2_with fail
      go_roundw
      case rel=>exact⟨pos+1,_,N3,Lib.hid (HX.out.op HL.out (by rw [oper_s HR.out,HD.out];rfl) (by rw [HR.out];rfl) (by show List.length (_++_)≤_;simp [aBe2]) (Nat.le_succ _) (HX.out.ks.mono (by omega)) rfl)⟩
      case measure=>exact itLeft_lt HI.out.ib N3.out.ib (show pos<fo.toArray.size by simpa using hlt)
     ·go_wp2_with (refine wpl_next (s:=⟨fo.toArray⟩) (pos:=pos) rfl rfl rfl HI.out.ib 106 (show _ from HL.out) (by omega) ?_;refine stop_here ?_)
      refine go_on ?_
      intro w6a hk hcl2 hfr hsz2 hh hbl
      have HI1:=Lib.hid (HI.out.turn hk hh hbl.out)
      clear hk hcl2 hfr hsz2 hh hbl
      obtain⟨s,r,hr,hsz⟩:=HX.out.one HL.out
      have HR:=Lib.hid hr
      clear hr
      have HID:=Lib.hid (HI1.out.below ((Below.refl w6a.heap.size w6a).drew))
      obtain⟨ρ',V',U',A8,n8,c8,e8⟩:=HID.out.ex
      obtain⟨Ac,cc,hcv⟩:=own_slice e8.mt.code.1
      obtain⟨AJ,kJ,hjv⟩:=own_slice e8.mt.jumps.1
      have d4:=HID.out.b4.cell 0 rfl
      have c6:w6a.drew.cell? ⟨xb,6,none⟩=some (.slice Ac x.code.length cc):=by rw [←show U'.cv= .slice Ac x.code.length cc from hcv];exact e8.mt.box.cell 6 rfl
      have c11:w6a.drew.cell? ⟨xb,11,none⟩=some (.slice AJ x.jumps.length kJ):=by rw [←show U'.jv= .slice AJ x.jumps.length kJ from hjv];exact e8.mt.box.cell 11 rfl
      have HE:=Lib.hid e8
      have HCV:=Lib.hid (show U'.cv= .slice Ac x.code.length cc from hcv)
      have HJV:=Lib.hid (show U'.jv= .slice AJ x.jumps.length kJ from hjv)
      have NV:=Lib.hid (show∀g,(Value.slice AJ x.jumps.length kJ).ownBlock=some g→g≠xb∧g≠w.heap.size+1 from fun g hg=>by
       have h1:=e8.mt.jumps.2 g (by rw [show U'.jv= .slice AJ x.jumps.length kJ from hjv];exact hg)
       refine⟨?_, ?_⟩
       ·rintro rfl
        rw [e8.mt.xc] at h1
        omega
       ·rintro rfl
        rw [e8.r4] at h1
        omega)
      clear e8 hcv hjv
      go_wp2_with fail
      refine wp_region_un (fun w'=>w'.cell? ⟨xb,11,none⟩=some (.slice AJ x.jumps.length kJ)∧w'.cell? ⟨w.heap.size+1,0,none⟩=some (.pointer (some ⟨xb,0,none⟩))∧w'.cell? ⟨xb,6,none⟩=some (.slice Ac x.code.length cc)) 19 (by kernel_rfl) ?_ (fun hHeld=> ?_)
      ·exact⟨c11,d4,c6⟩
      refine un_many [0,1,2,3,4,5,6,7,8,9,10,11,12] 7 rfl (by kernel_rfl) (fun _ _ _ d _ h=>by cases d<;>exact h) (by assumption) ?_
      repeat(refine tk_cons ?_ rfl rfl ?_ ?_;rotate_left;(intro w hSw;(try dsimp only at hSw);go_simp;(try with_reducible rfl));(try simp only [Act.put,List.setIfInBounds_toArray,List.set_cons_zero,List.set_cons_succ]))
      refine tk_nil ?_
      refine un_step (i:=13) (by kernel_rfl) rfl (fun K hK=> ?_)
      go_simp;go_at_call 131
      refine(HID.out.next' HE.out HR.out).mono ?_
      rintro e w11 ⟨rfl,hi,A9,hw11,he⟩
      have N1:=Lib.hid (show InS w ρ B kb xb w.heap.size (w.heap.size+1) w2.heap.size w5.heap.size ⟨fo.toArray⟩ (pos+1) m ⟨x.k,x.code,x.jumps,r⟩ w11 from hi)
      have E1:=Lib.hid he
      have e6:w11.cell? ⟨xb,6,none⟩=some (.slice Ac x.code.length cc):=by rw [←HCV.out];exact he.mt.box.cell 6 rfl
      have e11:w11.cell? ⟨xb,11,none⟩=some (.slice AJ x.jumps.length kJ):=by rw [←HJV.out];exact he.mt.box.cell 11 rfl
      have N2:=Lib.hid (hi.below ((Below.refl w11.heap.size w11).alloc (Nat.le_refl _) (.cells #[.int .i64 (x.code.length:Nat), .int .i64 (m.mv.code.length:Nat), .string s] 176)))
      have f6:(w11.alloc (.cells #[.int .i64 (x.code.length:Nat), .int .i64 (m.mv.code.length:Nat), .string s] 176)).cell? ⟨xb,6,none⟩=some (.slice Ac x.code.length cc):=(((Below.refl w11.heap.size w11).alloc (Nat.le_refl _) _).cell (p:=⟨xb,6,none⟩) he.mt.box.lt).trans e6
      have f11:(w11.alloc (.cells #[.int .i64 (x.code.length:Nat), .int .i64 (m.mv.code.length:Nat), .string s] 176)).cell? ⟨xb,11,none⟩=some (.slice AJ x.jumps.length kJ):=(((Below.refl w11.heap.size w11).alloc (Nat.le_refl _) _).cell (p:=⟨xb,11,none⟩) he.mt.box.lt).trans e11
      have HO:=Lib.hid (show(w11.alloc (.cells #[.int .i64 (x.code.length:Nat), .int .i64 (m.mv.code.length:Nat), .string s] 176)).ownsRow B 176 3 (.slice AJ x.jumps.length kJ) x.jumps.length (x.jumps.flatMap AsF.cells) from by
       rw [←HJV.out]
       exact own_heap he.mt.jumps.1 fun q hq=>Below.heap_alloc _ _ _ (he.mt.jumps.1.lt q hq).2)
      have hB11:=he.kc.hB
      clear hi he hw11
      dsimp only
      refine hK.out _ _ (fun _=> ?_) (fun hHeld2=> ?_)
      ·exact⟨e11,N1.out.b4.cell 0 rfl,e6⟩
      have hHeld:=hHeld2 (by decide)
      clear hHeld2
      clear hK K
      (try simp only [Act.put,List.setIfInBounds_toArray,List.set_cons_zero,List.set_cons_succ])
      refine un_many [14] 5 rfl (by kernel_rfl) (fun _ _ _ d _ h=>by cases d<;>exact h) (by assumption) ?_
      repeat(refine tk_cons ?_ rfl rfl ?_ ?_;rotate_left;(intro w hSw;(try dsimp only at hSw);go_simp;(try with_reducible rfl));(try simp only [Act.put,List.setIfInBounds_toArray,List.set_cons_zero,List.set_cons_succ]))
      refine tk_nil ?_
      refine un_step (i:=15) (by kernel_rfl) rfl (fun K hK=> ?_)
      go_simp
      refine hK.out _ _ (fun _=> ?_) (fun hHeld2=> ?_)
      ·exact⟨f11,N2.out.b4.cell 0 rfl,f6⟩
      have hHeld:=hHeld2 (by decide)
      clear hHeld2
      clear hK K
      (try simp only [Act.put,List.setIfInBounds_toArray,List.set_cons_zero,List.set_cons_succ])
      refine un_step (i:=16) (by kernel_rfl) rfl (fun K hK=> ?_)
      refine step_lies rfl (.tmp 164) (.tmp 175) 70 rfl Tryz.underlying70 info_afar rfl (by omega) B rfl HO.out rfl rfl (cells_new w11 [.int .i64 (x.code.length:Nat), .int .i64 (m.mv.code.length:Nat), .string s] _) (by simp [Value.oneCell']) (by omega) (by simp only [maxLen];omega) (by omega) (by simp;omega) ?_
      intro g3 c3 w14 ho3 hg3 hb3 hgg3
      have X14:=Lib.hid (show Bx w14 xb (mtCells (mAt m { x with rest:=r }) U') 73 from(hg3.block xb (by have:=E1.out.mt.box.lt;simp;omega) (fun e=> (NV.out _ e.symm).1 rfl)).trans ((Below.heap_alloc _ _ _ E1.out.mt.box.lt).trans E1.out.mt.box))
      have c14:=X14.out.cell 11 rfl
      have z14:=X14.out.frozen 11
      have k14:w14.cell? ⟨w.heap.size+1,0,none⟩=some (.pointer (some ⟨xb,0,none⟩)):=(World.cell?_of_block (a:=⟨w.heap.size+1,0,none⟩) (w:=w11.alloc (.cells #[.int .i64 (x.code.length:Nat), .int .i64 (m.mv.code.length:Nat), .string s] 176)) (hg3.block (w.heap.size+1) (by have:=N1.out.b4.lt;simp;omega) (fun e=> (NV.out _ e.symm).2 rfl))).trans (N2.out.b4.cell 0 rfl)
      have k6:w14.cell? ⟨xb,6,none⟩=some (.slice Ac x.code.length cc):=by rw [←HCV.out];exact X14.out.cell 6 rfl
      have n4:w.heap.size+1≠xb:=by have:=E1.out.r4;intro e;rw [e,E1.out.mt.xc] at this;omega
      have G14:=Lib.hid hg3
      have O14:=Lib.hid ho3
      have GG:=Lib.hid hgg3
      clear ho3 hg3 hb3 hgg3
      have k11v:w14.cell? ⟨xb,11,none⟩=some (.slice AJ x.jumps.length kJ):=by rw [←HJV.out];exact c14
      refine hK.out _ _ (fun _=> ?_) (fun hHeld2=> ?_)
      ·exact⟨k11v,k14,k6⟩
      have hHeld:=hHeld2 (by decide)
      clear hHeld2
      clear hK K
      (try simp only [Act.put,List.setIfInBounds_toArray,List.set_cons_zero,List.set_cons_succ])
      refine un_step (i:=17) (by kernel_rfl) rfl (fun K hK=> ?_)
      go_simp
      refine hK.out _ _ (fun _=> ?_) (fun hHeld2=> ?_)
      ·exact⟨k11v,k14,k6⟩
      have hHeld:=hHeld2 (by decide)
      clear hHeld2
      clear hK K
      (try simp only [Act.put,List.setIfInBounds_toArray,List.set_cons_zero,List.set_cons_succ])
      refine un_step (i:=18) (by kernel_rfl) rfl (fun K hK=> ?_)
      go_simp
      refine hK.out _ _ (fun _=> ?_) (fun hHeld2=> ?_)
      ·exact⟨k11v,k14,k6⟩
      have hHeld:=hHeld2 (by decide)
      clear hHeld2
      clear hK K
      (try simp only [Act.put,List.setIfInBounds_toArray,List.set_cons_zero,List.set_cons_succ])
      refine un_step (i:=19) (by kernel_rfl) rfl (fun K hK=> ?_)
      go_simp
      refine hK.out _ _ (fun h=>absurd rfl h) (fun _=> ?_)
      clear hK K
      (try simp only [Act.put,List.setIfInBounds_toArray,List.set_cons_zero,List.set_cons_succ])
      refine un_done (by kernel_rfl) ?_
      have hg6:U'.jv.ownBlock=some g3∨w11.heap.size≤g3:=by
       rcases GG.out with e|e
       ·exact .inl (by rw [HJV.out];exact e)
       ·right
        first|omega| (simp at e;omega)
      have hgx:g3≠xb:=by
       rintro rfl
       rcases hg6 with e|e
       ·exact(NV.out _ (by rw [←HJV.out];exact e)).1 rfl
       ·have:=E1.out.mt.box.lt
        omega
      obtain⟨ρ9,jv9,hM,hC2,hL2⟩:=E1.out.mt.addJ (x:=⟨x.code.length,m.mv.code.length,s⟩) (w':=w14.setCell ⟨xb,11,none⟩ (.slice (some ⟨g3,0,none⟩) (x.jumps.length+1) c3)) (g:=g3) (cap:=c3) E1.out.kc.low G14.out.os G14.out.tape G14.out.output (by have:=G14.out.size;simp at this⊢;omega)
       (fun q hq h1 h2=> (Below.heap_setCell _ _ _ _ h1).trans ((G14.out.block q (by simp;omega) (fun e=>h2 (by rw [HJV.out];exact e.symm))).trans (Below.heap_alloc _ _ _ hq)))
       (X14.out.set 11 _) (own_set O14.out hgx _) hg6
      have N3:=Lib.hid (show InS w ρ B kb xb w.heap.size (w.heap.size+1) w2.heap.size w5.heap.size ⟨fo.toArray⟩ (pos+1) m ⟨x.k,x.code,x.jumps++ [⟨x.code.length,m.mv.code.length,s⟩],r⟩ (w14.setCell ⟨xb,11,none⟩ (.slice (some ⟨g3,0,none⟩) (x.jumps.length+1) c3)) from N1.out.step E1.out hC2 (by decide) (by decide) (E1.out.kc.keep hC2 hL2 (by intro c h1 h2 hm;simp at hm;omega)) rfl hM rfl)
      clear hM hC2 hL2 hg6 G14 O14 GG X14 c14 z14 k14 k6
      go_wp2_with (go_at_call 132;refine stop_here ?_)
      refine go_on ?_
      refine(N3.out.put2 0 (by show x.code.length≤999000;omega) (by omega)).mono ?_
      rintro e w15 ⟨rfl,hi⟩
      have N4:=Lib.hid (show InS w ρ B kb xb w.heap.size (w.heap.size+1) w2.heap.size w5.heap.size ⟨fo.toArray⟩ (pos+1) m ⟨x.k,x.code++ [0,0],x.jumps++ [⟨x.code.length,m.mv.code.length,s⟩],r⟩ w15 from by rw [←aBe2_zero];exact hi)
      clear hi
      go_wp2_with fail
      go_roundw
      case rel=>exact⟨pos+1,_,N4,Lib.hid (HX.out.op HL.out (oper_j HR.out) (by rw [HR.out];rfl) (by show List.length (_++_)≤_;simp [aBe2]) (by show List.length (_++_)≤_;simp) (HX.out.ks.mono (by omega)) rfl)⟩
      case measure=>exact itLeft_lt HI.out.ib N4.out.ib (show pos<fo.toArray.size by simpa using hlt)
     ·go_wp2_with (refine wpl_next (s:=⟨fo.toArray⟩) (pos:=pos) rfl rfl rfl HI.out.ib 102 (show _ from HL.out) (by omega) ?_;refine stop_here ?_)
      refine go_on ?_
      intro w6a hk hcl2 hfr hsz2 hh hbl
      have HI1:=Lib.hid (HI.out.turn hk hh hbl.out)
      clear hk hcl2 hfr hsz2 hh hbl
      obtain⟨s,t,u,r,hr,hsz,htz,huz⟩:=HX.out.three HL.out rfl
      have HR:=Lib.hid hr
      clear hr
      have hmm:= @run_makeMap Tryz.prog
      have hks:=member_small HX.out.ks (t:=9) (by unfold TagOk;omega) hsz htz huz (by omega)
      have hks2:=hks.2
      have HKS:=Lib.hid hks.1
      clear hks
      go_wp2_with (go_at_call 131;refine stop_here ?_)
      refine go_on ?_
      refine(HI1.out.next HR.out).mono ?_
      rintro e w7 ⟨rfl,hi⟩
      have N1:=Lib.hid hi
      clear hi
      go_wp2_with (go_at_call 131;refine stop_here ?_)
      refine go_on ?_
      refine(N1.out.next rfl).mono ?_
      rintro e w8 ⟨rfl,hi⟩
      have N2:=Lib.hid hi
      clear hi
      go_wp2_with (go_at_call 131;refine stop_here ?_)
      refine go_on ?_
      refine(N2.out.next rfl).mono ?_
      rintro e w9 ⟨rfl,hi⟩
      have N3:=Lib.hid hi
      clear hi
      have HM0:=Lib.hid (mapL_made w9 Tryz.prog 21)
      have HB0:=Lib.hid ((Below.refl w9.heap.size w9).alloc (Nat.le_refl _) (.map #[] 0))
      go_wp2_with (refine wpli_ins rfl _ _ _ rfl Tryz.underlying21 Tryz.underlying182 rfl HM0.out (by decide) rfl (by decide) rfl ?_;refine stop_here ?_)
      refine go_on ?_
      intro w9a hm hg
      have HM1:=Lib.hid hm
      have HB1:=Lib.hid (HB0.out.grown hg (by have:=HB0.out.size;simp) (fun k hk=>by cases hk;exact Nat.le_refl _))
      clear hm hg HM0 HB0
      go_wp2_with (refine wpli_ins rfl _ _ _ rfl Tryz.underlying21 Tryz.underlying182 rfl HM1.out (by decide) rfl (by decide) rfl ?_;refine stop_here ?_)
      refine go_on ?_
      intro w9b hm hg
      have HM2:=Lib.hid hm
      have HB2:=Lib.hid (HB1.out.grown hg (by have:=HB1.out.size;omega) (fun k hk=>by cases hk;exact Nat.le_refl _))
      clear hm hg HM1 HB1
      go_wp2_with (refine wpli_ins rfl _ _ _ rfl Tryz.underlying21 Tryz.underlying182 rfl HM2.out (by decide) rfl (by decide) rfl ?_;refine stop_here ?_)
      refine go_on ?_
      intro w9c hm hg
      have HM3:=Lib.hid hm
      have HB3:=Lib.hid (HB2.out.grown hg (by have:=HB2.out.size;omega) (fun k hk=>by cases hk;exact Nat.le_refl _))
      clear hm hg HM2 HB2
      have N4:=Lib.hid (N3.out.below HB3.out)
      have d1:=N4.out.b1.cell 0 rfl
      go_wp2_with (refine wpli_get rfl _ _ rfl Tryz.underlying21 Tryz.underlying182 (z:= .int .i64 0) (by kernel_rfl) rfl HM3.out rfl (by decide) ?_;refine stop_here ?_)
      refine go_on ?_
      try simp only [Int.reduceEq,if_true,if_false,reduceIte,Option.getD_some]
      go_wp2_with (go_at_call 134;refine stop_here ?_)
      refine go_on ?_
      refine(N4.out.member 9 s t u (by unfold TagOk;omega) hsz htz huz (by show x.k.c.pool.length≤999000;omega)).mono ?_
      rintro e w10 ⟨rfl,hi⟩
      have N5:=Lib.hid hi
      clear hi d1
      go_wp2_with (go_at_call 132;refine stop_here ?_)
      refine go_on ?_
      refine(N5.out.put2 (((x.k.member 9 s t u).1:Nat):Int) (by show x.code.length≤999000;omega) (by omega)).mono ?_
      rintro e w11 ⟨rfl,hi⟩
      have N6:=Lib.hid hi
      clear hi
      go_wp2_with fail
      go_roundw
      case rel=>exact⟨pos+1,_,N6,Lib.hid (HX.out.op HL.out (oper_f HR.out) (by rw [HR.out];rfl) (by show List.length (_++_)≤_;simp [aBe2]) (Nat.le_succ _) (HKS.out.mono (by omega)) rfl)⟩
      case measure=>exact itLeft_lt HI.out.ib N6.out.ib (show pos<fo.toArray.size by simpa using hlt)
     ·go_wp2_with (refine wpl_next (s:=⟨fo.toArray⟩) (pos:=pos) rfl rfl rfl HI.out.ib 109 (show _ from HL.out) (by omega) ?_;refine stop_here ?_)
      refine go_on ?_
      intro w6a hk hcl2 hfr hsz2 hh hbl
      have HI1:=Lib.hid (HI.out.turn hk hh hbl.out)
      clear hk hcl2 hfr hsz2 hh hbl
      obtain⟨s,t,u,r,hr,hsz,htz,huz⟩:=HX.out.three HL.out rfl
      have HR:=Lib.hid hr
      clear hr
      have hmm:= @run_makeMap Tryz.prog
      have hks:=member_small HX.out.ks (t:=10) (by unfold TagOk;omega) hsz htz huz (by omega)
      have hks2:=hks.2
      have HKS:=Lib.hid hks.1
      clear hks
      go_wp2_with (go_at_call 131;refine stop_here ?_)
      refine go_on ?_
      refine(HI1.out.next HR.out).mono ?_
      rintro e w7 ⟨rfl,hi⟩
      have N1:=Lib.hid hi
      clear hi
      go_wp2_with (go_at_call 131;refine stop_here ?_)
      refine go_on ?_
      refine(N1.out.next rfl).mono ?_
      rintro e w8 ⟨rfl,hi⟩
      have N2:=Lib.hid hi
      clear hi
      go_wp2_with (go_at_call 131;refine stop_here ?_)
      refine go_on ?_
      refine(N2.out.next rfl).mono ?_
      rintro e w9 ⟨rfl,hi⟩
      have N3:=Lib.hid hi
      clear hi
      have HM0:=Lib.hid (mapL_made w9 Tryz.prog 21)
      have HB0:=Lib.hid ((Below.refl w9.heap.size w9).alloc (Nat.le_refl _) (.map #[] 0))
      go_wp2_with (refine wpli_ins rfl _ _ _ rfl Tryz.underlying21 Tryz.underlying182 rfl HM0.out (by decide) rfl (by decide) rfl ?_;refine stop_here ?_)
      refine go_on ?_
      intro w9a hm hg
      have HM1:=Lib.hid hm
      have HB1:=Lib.hid (HB0.out.grown hg (by have:=HB0.out.size;simp) (fun k hk=>by cases hk;exact Nat.le_refl _))
      clear hm hg HM0 HB0
      go_wp2_with (refine wpli_ins rfl _ _ _ rfl Tryz.underlying21 Tryz.underlying182 rfl HM1.out (by decide) rfl (by decide) rfl ?_;refine stop_here ?_)
      refine go_on ?_
      intro w9b hm hg
      have HM2:=Lib.hid hm
      have HB2:=Lib.hid (HB1.out.grown hg (by have:=HB1.out.size;omega) (fun k hk=>by cases hk;exact Nat.le_refl _))
      clear hm hg HM1 HB1
      go_wp2_with (refine wpli_ins rfl _ _ _ rfl Tryz.underlying21 Tryz.underlying182 rfl HM2.out (by decide) rfl (by decide) rfl ?_;refine stop_here ?_)
      refine go_on ?_
      intro w9c hm hg
      have HM3:=Lib.hid hm
      have HB3:=Lib.hid (HB2.out.grown hg (by have:=HB2.out.size;omega) (fun k hk=>by cases hk;exact Nat.le_refl _))
      clear hm hg HM2 HB2
      have N4:=Lib.hid (N3.out.below HB3.out)
      have d1:=N4.out.b1.cell 0 rfl
      go_wp2_with (refine wpli_get rfl _ _ rfl Tryz.underlying21 Tryz.underlying182 (z:= .int .i64 0) (by kernel_rfl) rfl HM3.out rfl (by decide) ?_;refine stop_here ?_)
      refine go_on ?_
      try simp only [Int.reduceEq,if_true,if_false,reduceIte,Option.getD_some]
      go_wp2_with (go_at_call 134;refine stop_here ?_)
      refine go_on ?_
      refine(N4.out.member 10 s t u (by unfold TagOk;omega) hsz htz huz (by show x.k.c.pool.length≤999000;omega)).mono ?_
      rintro e w10 ⟨rfl,hi⟩
      have N5:=Lib.hid hi
      clear hi d1
      go_wp2_with (go_at_call 132;refine stop_here ?_)
      refine go_on ?_
      refine(N5.out.put2 (((x.k.member 10 s t u).1:Nat):Int) (by show x.code.length≤999000;omega) (by omega)).mono ?_
      rintro e w11 ⟨rfl,hi⟩
      have N6:=Lib.hid hi
      clear hi
      go_wp2_with fail
      go_roundw
      case rel=>exact⟨pos+1,_,N6,Lib.hid (HX.out.op HL.out (oper_m HR.out) (by rw [HR.out];rfl) (by show List.length (_++_)≤_;simp [aBe2]) (Nat.le_succ _) (HKS.out.mono (by omega)) rfl)⟩
      case measure=>exact itLeft_lt HI.out.ib N6.out.ib (show pos<fo.toArray.size by simpa using hlt)
     ·go_wp2_with (refine wpl_next (s:=⟨fo.toArray⟩) (pos:=pos) rfl rfl rfl HI.out.ib 99 (show _ from HL.out) (by omega) ?_;refine stop_here ?_)
      refine go_on ?_
      intro w6a hk hcl2 hfr hsz2 hh hbl
      have HI1:=Lib.hid (HI.out.turn hk hh hbl.out)
      clear hk hcl2 hfr hsz2 hh hbl
      obtain⟨s,r,hr,hsz⟩:=HX.out.one HL.out
      have HR:=Lib.hid hr
      clear hr
      have HID:=Lib.hid (HI1.out.below ((Below.refl w6a.heap.size w6a).drew))
      have hks:=cls_small HX.out.ks hsz (by omega)
      have hks2:=hks.2
      have HKS:=Lib.hid hks.1
      clear hks
      go_wp2_with fail
      go_region_held2 (fun w'=>w'.cell? ⟨w.heap.size,0,none⟩=some (.pointer (some ⟨kb,0,none⟩))) (first|exact HID.out.b1.cell 0 rfl|exact N1.out.b1.cell 0 rfl|exact N2.out.b1.cell 0 rfl|exact N3.out.b1.cell 0 rfl) (first
       | (go_simp;go_at_call 131
          refine(HID.out.next HR.out).mono ?_
          rintro e w11 ⟨rfl,hi⟩
          have N1:=Lib.hid hi
          clear hi
          dsimp only)
       | (go_simp;go_at_call 56
          refine(N1.out.cls s hsz (by show x.k.c.pool.length≤999000;omega)).mono ?_
          rintro e w12 ⟨rfl,hi⟩
          have N2:=Lib.hid hi
          clear hi
          dsimp only)
       | (go_simp;go_at_call 132
          refine(N2.out.put2 ((x.k.cls s).1:Int) (by show x.code.length≤999000;omega) (by omega)).mono ?_
          rintro e w13 ⟨rfl,hi⟩
          have N3:=Lib.hid hi
          clear hi
          dsimp only))
      go_wp2_with fail
      go_roundw
      case rel=>exact⟨pos+1,_,N3,Lib.hid (HX.out.op HL.out (oper_c HR.out) (by rw [HR.out];rfl) (by show List.length (_++_)≤_;simp [aBe2]) (Nat.le_succ _) (HKS.out.mono (by omega)) rfl)⟩
      case measure=>exact itLeft_lt HI.out.ib N3.out.ib (show pos<fo.toArray.size by simpa using hlt)
     ·go_wp2_with (refine wpl_next (s:=⟨fo.toArray⟩) (pos:=pos) rfl rfl rfl HI.out.ib 105 (show _ from HL.out) (by omega) ?_;refine stop_here ?_)
      refine go_on ?_
      intro w6a hk hcl2 hfr hsz2 hh hbl
      have HI1:=Lib.hid (HI.out.turn hk hh hbl.out)
      clear hk hcl2 hfr hsz2 hh hbl
      obtain⟨s,t,u,r,hr,hsz,htz,huz⟩:=HX.out.three HL.out rfl
      have HR:=Lib.hid hr
      clear hr
      have hmm:= @run_makeMap Tryz.prog
      have hks:=member_small HX.out.ks (t:=11) (by unfold TagOk;omega) hsz htz huz (by omega)
      have hks2:=hks.2
      have HKS:=Lib.hid hks.1
      clear hks
      go_wp2_with (go_at_call 131;refine stop_here ?_)
      refine go_on ?_
      refine(HI1.out.next HR.out).mono ?_
      rintro e w7 ⟨rfl,hi⟩
      have N1:=Lib.hid hi
      clear hi
      go_wp2_with (go_at_call 131;refine stop_here ?_)
      refine go_on ?_
      refine(N1.out.next rfl).mono ?_
      rintro e w8 ⟨rfl,hi⟩
      have N2:=Lib.hid hi
      clear hi
      go_wp2_with (go_at_call 131;refine stop_here ?_)
      refine go_on ?_
      refine(N2.out.next rfl).mono ?_
      rintro e w9 ⟨rfl,hi⟩
      have N3:=Lib.hid hi
      clear hi
      have HM0:=Lib.hid (mapL_made w9 Tryz.prog 21)
      have HB0:=Lib.hid ((Below.refl w9.heap.size w9).alloc (Nat.le_refl _) (.map #[] 0))
      go_wp2_with (refine wpli_ins rfl _ _ _ rfl Tryz.underlying21 Tryz.underlying182 rfl HM0.out (by decide) rfl (by decide) rfl ?_;refine stop_here ?_)
      refine go_on ?_
      intro w9a hm hg
      have HM1:=Lib.hid hm
      have HB1:=Lib.hid (HB0.out.grown hg (by have:=HB0.out.size;simp) (fun k hk=>by cases hk;exact Nat.le_refl _))
      clear hm hg HM0 HB0
      go_wp2_with (refine wpli_ins rfl _ _ _ rfl Tryz.underlying21 Tryz.underlying182 rfl HM1.out (by decide) rfl (by decide) rfl ?_;refine stop_here ?_)
      refine go_on ?_
      intro w9b hm hg
      have HM2:=Lib.hid hm
      have HB2:=Lib.hid (HB1.out.grown hg (by have:=HB1.out.size;omega) (fun k hk=>by cases hk;exact Nat.le_refl _))
      clear hm hg HM1 HB1
      go_wp2_with (refine wpli_ins rfl _ _ _ rfl Tryz.underlying21 Tryz.underlying182 rfl HM2.out (by decide) rfl (by decide) rfl ?_;refine stop_here ?_)
      refine go_on ?_
      intro w9c hm hg
      have HM3:=Lib.hid hm
      have HB3:=Lib.hid (HB2.out.grown hg (by have:=HB2.out.size;omega) (fun k hk=>by cases hk;exact Nat.le_refl _))
      clear hm hg HM2 HB2
      have N4:=Lib.hid (N3.out.below HB3.out)
      have d1:=N4.out.b1.cell 0 rfl
      go_wp2_with (refine wpli_get rfl _ _ rfl Tryz.underlying21 Tryz.underlying182 (z:= .int .i64 0) (by kernel_rfl) rfl HM3.out rfl (by decide) ?_;refine stop_here ?_)
      refine go_on ?_
      try simp only [Int.reduceEq,if_true,if_false,reduceIte,Option.getD_some]
      go_wp2_with (go_at_call 134;refine stop_here ?_)
      refine go_on ?_
      refine(N4.out.member 11 s t u (by unfold TagOk;omega) hsz htz huz (by show x.k.c.pool.length≤999000;omega)).mono ?_
      rintro e w10 ⟨rfl,hi⟩
      have N5:=Lib.hid hi
      clear hi d1
      go_wp2_with (go_at_call 132;refine stop_here ?_)
      refine go_on ?_
      refine(N5.out.put2 (((x.k.member 11 s t u).1:Nat):Int) (by show x.code.length≤999000;omega) (by omega)).mono ?_
      rintro e w11 ⟨rfl,hi⟩
      have N6:=Lib.hid hi
      clear hi
      have hks:=kinds_len u
      have hum2:u.size≤9223372036854775807:=by omega
      go_wp2_with (go_at_call 99;refine stop_here ?_)
      refine go_on ?_
      refine(kinds_any u _ hum2).mono ?_
      rintro e w12 ⟨rfl,hb12⟩
      have N7:=Lib.hid (N6.out.below hb12)
      clear hb12
      have hsx:((kindsV u).1.toList.length:Int)=((kindsV u).1.size:Int):=by rw [ByteArray.toList_eq];simp
      go_wp2_with (go_at_call 132;refine stop_here ?_)
      refine go_on ?_
      refine(N7.out.put1 (((kindsV u).1.size:Int)+1) (by show List.length (_++_)≤999000;simp only [aBe2,List.length_append,List.length_cons,List.length_nil];omega) (by omega)).mono ?_
      rintro e w13 ⟨rfl,hi⟩
      have N8:=Lib.hid hi
      clear hi
      go_wp2_with (go_at_call 132;refine stop_here ?_)
      refine go_on ?_
      refine(N8.out.put1 0 (by show List.length (_++_)≤999000;simp only [aBe2,List.length_append,List.length_cons,List.length_nil];omega) (by omega)).mono ?_
      rintro e w14 ⟨rfl,hi⟩
      have N9:=Lib.hid (show InS w ρ B kb xb w.heap.size (w.heap.size+1) w2.heap.size w5.heap.size ⟨fo.toArray⟩ (pos+1) m ⟨(x.k.member 11 s t u).2,x.code++aBe2 (x.k.member 11 s t u).1++ [aByte (((kindsV u).1.size:Int)+1),0],x.jumps,r⟩ w14 from by
       have e:x.code++aBe2 (x.k.member 11 s t u).1++ [aByte (((kindsV u).1.size:Int)+1),0]=x.code++aBe2 (x.k.member 11 s t u).1++ [aByte (((kindsV u).1.size:Int)+1)]++ [aByte 0]:=by rw [aByte_zero];simp
       rw [e]
       exact hi)
      clear hi
      go_wp2_with fail
      go_roundw
      case rel=>exact⟨pos+1,_,N9,Lib.hid (HX.out.op HL.out (oper_i HR.out) (by rw [HR.out];rfl) (by show List.length (_++_)≤_;simp [aBe2]) (Nat.le_succ _) (HKS.out.mono (by omega)) rfl)⟩
      case measure=>exact itLeft_lt HI.out.ib N9.out.ib (show pos<fo.toArray.size by simpa using hlt)
    ·go_wp2_with (refine wpl_next_end (s:=⟨fo.toArray⟩) (pos:=pos) rfl rfl rfl HI.out.ib (show fo.length≤pos by omega) ?_)
     refine⟨rfl, .tuple #[],by simp [results,Tryz.results57], ?_⟩
     exact HI.out.done (HX.out.done (by omega))
end Go.Proofs.YtlcidkiplidamaaGreatDoor
