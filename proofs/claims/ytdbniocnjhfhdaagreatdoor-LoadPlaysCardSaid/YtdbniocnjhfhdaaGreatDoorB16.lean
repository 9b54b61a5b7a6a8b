/- Part 16 of what the laws rest on: walks. Conditions: those that each theorem names. -/
import Derived.Test.YtdbniocnjhfhdaaGreatDoorB15
import Derived.RangeFuncNested
import Derived.RangeFuncBound
import Derived.Shelf.RegionOpen
import Derived.OwnWalkIn
import Derived.LoopNIn
import Derived.LoopIn
set_option linter.unusedSimpArgs false
set_option linter.unusedVariables false
set_option maxRecDepth 100000
set_option maxHeartbeats 1000000
namespace Go.Proofs.YtdbniocnjhfhdaaGreatDoor
open Go Go.RowKit Lib Go.Maps
def bqp.at (L:bqp) (X:Nat):bqp:={ L with ex:=X::L.ex }
theorem bqp.ro_at {L:bqp} {v:Value} {g X:Nat} (h:L.ro v g) (hg:g≠X):(L.at X).ro v g:=⟨h.1,h.2.1,h.2.2.1,h.2.2.2.1,h.2.2.2.2.1,h.2.2.2.2.2.1,fun e=>by rcases List.mem_cons.1 e with e|e<;>first|exact hg e|exact h.2.2.2.2.2.2 e⟩
theorem LdG.withEx {B:Nat} {L:bqp} {nd:Nat} {defs:List UInt8→Option (List UInt8)} {files:List UInt8→Option aqc} {ks going:List (List UInt8)} {ts:List TyV} {v:Value} {W:World} (h:LdG B L nd defs files ks going ts v W) (o:Obj):
  LdG B (L.at W.heap.size) nd defs files ks going ts v (W.alloc o):=by
 have hb:=(Below.refl W.heap.size W).alloc Nr o
 have h':=h.below hb
 have hk:aqC (L.ro v) W (W.alloc o):=aqC.of_below hb
 have hr: ∀g,g<W.heap.size→L.ro v g→(L.at W.heap.size).ro v g:=fun g hg hr=>bqp.ro_at hr Om
 have ho:=h.ord
 have hl:=h.lt
 obtain⟨fd,d1,d2⟩:=h.hd
 obtain⟨ff,n1,f0,f1,f2⟩:=h.hf
 exact⟨h'.c0,h'.c1,h'.c2,h'.c3,h'.c4,h'.fz,⟨fd,d1.keep (hb.block _ d1.lt),fun s=> (d2 s).keep hk hr⟩,⟨ff,n1,f0,f1.keep (hb.block _ f1.lt),fun s=> (f2 s).keep hk hr⟩,h'.hk,h'.hg,h'.ty,fun t ht=> (h.rd t ht).keep hk hr,h.ord,h.new,h'.lt,
  fun x hx=>by
   rcases List.mem_cons.1 hx with rfl|hx
   ·simp
   exact Nat.lt_of_lt_of_le (h.exl x hx) hb.size,fun g hg hx=>by rcases List.mem_cons.1 hx with rfl|hx<;>first|exact absurd (h.ty.lt _ hg).2 (Nat.lt_irrefl _) |exact h.newx g hg hx,fun x hx=>by rcases List.mem_cons.1 hx with rfl|hx<;>first|exact⟨Nat.ne_of_gt hl,by show W.heap.size≠L.bd;omega,by show W.heap.size≠L.bf;omega,by show W.heap.size≠L.bk;omega,by show W.heap.size≠L.bg;omega⟩ |exact h.nex x hx⟩
def fqP:Option ByteArray→ByteArray
 |none=> ⟨#[]⟩
 |some e=>dqv e
def oqd (B:Nat) (L:bqp) (nd:Nat) (defs:List UInt8→Option (List UInt8)) (dn:List (List UInt8)) (v:Value) (W:World) (r:Option ByteArray×LT) (e:Ending) (W':World):Prop:=
 e= .returned (.string (fqP r.1))∧ ∃X ts' v',ts'.map TyV.key=r.2.ts∧LdG B (L.at X) nd defs r.2.files (ts'.map TyV.name) [] ts' v' W'∧fqc dn (ts'.map TyV.name)∧Below B W W'∧(∀g,g<W.heap.size→L.frp v g→W'.heap[g]?=W.heap[g]?)
def mq8 (B:Nat) (L:bqp) (nd:Nat) (defs:List UInt8→Option (List UInt8)) (dn:List (List UInt8)) (v:Value) (W:World) (r:Option ByteArray×LT) (e:Ending) (W':World):Prop:=
 e= .returned (.string (fqP r.1))∧ ∃X ts' v',ts'.map TyV.key=r.2.ts∧LdG B (L.at X) nd defs r.2.files (ts'.map TyV.name) [] ts' v' W'∧fqc dn (ts'.map TyV.name)∧LFr B L v W v' W'
theorem fqQ (CE:aqc→Int) (defs:List UInt8→Option (List UInt8)) (dn:List (List UInt8)) (K:LdK CE defs dn) (B:Nat) (L:bqp) (nd:Nat) (files:List UInt8→Option aqc) (ts:List TyV) (v:Value) (W:World) (s:ByteArray)
  (h:LdG B L nd defs files (ts.map TyV.name) [] ts v W) (hk:fqc dn (ts.map TyV.name)) (hs:s.size≤9223372036854775807) (hB:0<B) (hgl:W.cell? ⟨0,0,none⟩=some (.iface 132 (.agg #[.pointer (some ⟨2,69,none⟩)]))):
  Calls Tryz.prog 13 #[.pointer (some ⟨L.lb,0,none⟩), .string s] W (mq8 B L nd defs dn v W (aqM (rdD CE defs) 65 [] ⟨ts.map TyV.key,files⟩ s)):=by
 have hBW:=h.lb_le
 have HC:=Hq (jqz CE defs dn K 65 B (L.at W.heap.size) nd files ts v (W.alloc (.cells #[.string ⟨#[]⟩] 66)) [] s (h.withEx _) hk hs (by have:=K.cnt;have:=List.length_filter_le (fun x=>decide (x∉([]:List (List UInt8)))) dn;omega) Sp)
 obtain⟨q,hq⟩: ∃q,aqM (rdD CE defs) 65 [] ⟨ts.map TyV.key,files⟩ s=q:=⟨_,rfl⟩
 rw [hq] at HC⊢
 have HX:=Hq (aql W [.string ⟨#[]⟩] 66)
 have HGL:=Hq hgl
 have HB:=Hq ((Below.refl W.heap.size W).alloc Nr (.cells #[.string ⟨#[]⟩] 66))
 have HV:=Hq (fun g (hg:v.ownBlock=some g)=> (h.ty.lt g hg).2)
 have hord:=h.ord
 have hlt0:=h.lt
 clear hq h hk hgl
 go_enter Tryz.func13,Tryz.ntmps13
 go_wp2_with (go_at_call 27;refine aqa ?_)
 refine aqb ?_
 refine HC.out.mono ?_
 rintro e W1 ⟨x,ts1,v1,rfl,hx,hts,hg,hk,hf⟩
 obtain⟨q1,σ1⟩:=q
 have hz1:=hf.bel.size
 have HG:=Hq hg
 have HK:=Hq hk
 have HF:=Hq hf
 have HTS:=Hq hts
 clear hts hg hk hf HC
 cases q1 with
 |none=>
  obtain rfl:x= .nilIface:=hx
  go_wp2_with (go_at_call 26;refine(oqN _ _).mono ?_;rintro e w2 ⟨rfl,rfl⟩)
  go_ret
  refine⟨rfl,W.heap.size,ts1,v1,HTS.out,HG.out,HK.out,⟨(HB.out.mono hBW).trans HF.out.bel,fun g hg hr=> (HF.out.blk g Sd hr).trans (HB.out.block g hg),fun g hg hr=>HF.out.fr g Sd hr⟩⟩
 |some er=>
  have hx':gqp x er:=hx
  have HXX:=Hq hx'
  have hex:=HG.out.nex W.heap.size (List.mem_cons_self ..)
  have hfx:(L.at W.heap.size).frp v W.heap.size:=⟨by simp only [bqp.at];omega,by simp only [bqp.at];omega,by simp only [bqp.at];omega,by simp only [bqp.at];omega,by simp only [bqp.at];omega,fun e=>by have:=HV.out _ e;omega⟩
  have hbx:=(HF.out.blk W.heap.size Sp hfx).trans HX.out
  have hX1:Bx W1 W.heap.size [.string ⟨#[]⟩] 66:=hbx
  have hg1:W1.cell? ⟨0,0,none⟩=some (.iface 132 (.agg #[.pointer (some ⟨2,69,none⟩)])):=(HF.out.bel.cell (p:=⟨0,0,none⟩) hB).trans ((HB.out.cell (p:=⟨0,0,none⟩) (show(0:Nat) <W.heap.size by omega)).trans HGL.out)
  have HAS:=Hq (oqO hx' W.heap.size (.string ⟨#[]⟩) W1 hg1 (hX1.cell 0 rfl) (hX1.frozen 0))
  have HX1:=Hq hX1
  obtain⟨T,y,rfl⟩:=hx'.iface
  clear hx hx' hfx hbx hX1 hg1
  go_wp2_with (go_at_call 26;refine aqa ?_)
  refine aqb ?_
  refine HAS.out.mono ?_
  rintro e w2 ⟨rfl,Wm,hbm,rfl⟩
  have HX2:=Hq ((HX1.out.below hbm HX1.out.lt).set 0 (.string (dqv er)))
  have HBM:=Hq hbm
  clear hbm
  generalize hW2:Wm.setCell ⟨W.heap.size,0,none⟩ (.string (dqv er))=W2 at*
  have HW2:=Hq hW2
  clear hW2
  have cx:=HX2.out.cell 0 rfl
  go_wp2_with fail
  go_ret
  have hbm:=HBM.out
  have hgm:=HG.out.below hbm
  have hbs:But Wm.heap.size [W.heap.size] Wm W2:=by rw [←HW2.out];exact(But.refl _ _ _).set ⟨W.heap.size,0,none⟩ (.inl Sp) _
  have hsm:=hbm.size
  refine⟨rfl,W.heap.size,ts1,v1,HTS.out, ?_,HK.out,⟨?_,fun g hg hr=> ?_,fun g hg hr=>HF.out.fr g Sd hr⟩⟩
  ·obtain⟨n3,k0,k1⟩:=hgm.hg
   have hlast:=hex
   exact hgm.but [W.heap.size] hbs (fun g hm=>by
    obtain rfl:g=W.heap.size:=by simpa using hm
    exact⟨hlast.1,hlast.2.1,hlast.2.2.1,hlast.2.2.2.1,fun hr=>hr.2.2.2.2.2.2 (List.mem_cons_self ..),fun e=>hgm.newx _ e (List.mem_cons_self ..)⟩) ⟨n3,k0,k1.but hbs k1.lt (fun hm=>by simp only [bqp.at,List.mem_singleton] at hm;omega)⟩
  ·exact((HB.out.mono hBW).trans (HF.out.bel.trans (hbm.mono HG.out.lb_le))).trans ((hbs.mono (S':= []) (Nat.le_trans HG.out.lb_le hsm) (fun k hk hm=>by simp at hm;omega)).below)
  rw [hbs.block g (by simp at hz1;omega) Sd,hbm.block g (by simp at hz1;omega)]
  exact(HF.out.blk g Sd hr).trans (HB.out.block g hg)
theorem fqR (CE:aqc→Int) (defs:List UInt8→Option (List UInt8)) (dn:List (List UInt8)) (K:LdK CE defs dn) (B:Nat) (L:bqp) (nd:Nat) (files:List UInt8→Option aqc) (ts:List TyV) (v:Value) (W:World) (s:ByteArray)
  (h:LdG B L nd defs files (ts.map TyV.name) [] ts v W) (hk:fqc dn (ts.map TyV.name)) (hs:s.size≤9223372036854775807) (hB:0<B) (hgl:W.cell? ⟨0,0,none⟩=some (.iface 132 (.agg #[.pointer (some ⟨2,69,none⟩)]))):
  Calls Tryz.prog 13 #[.pointer (some ⟨L.lb,0,none⟩), .string s] W (oqd B L nd defs dn v W (aqM (rdD CE defs) 65 [] ⟨ts.map TyV.key,files⟩ s)):=
 (fqQ CE defs dn K B L nd files ts v W s h hk hs hB hgl).mono fun e W' hq=>by
  obtain⟨he,X,ts',v',h1,h2,h3,h4⟩:=hq
  exact⟨he,X,ts',v',h1,h2,h3,h4.bel,h4.blk⟩
end Go.Proofs.YtdbniocnjhfhdaaGreatDoor
set_option maxHeartbeats 400000
namespace Go.Proofs.YtdbniocnjhfhdaaGreatDoor
open Go Go.RowKit Lib
theorem hqE {P:Program} {W:World} {ops:Array Oper} {rest:List Oper} {o:Oper} {a:Act} {Q:Exit→Act→World→Prop} {x:Operand} (hop:o.op= .next x true) (hgd:o.guard=none)
  {k:Nat} {s:ByteArray} {pos:Nat} (hx:a.eval x= .pointer (some ⟨k,0,none⟩)) (hk:W.heap[k]?=some (.stringIter s pos)) (hlt:pos<s.size)
  (h: ∀W':World,W'.heap[k]?=some (.stringIter s (pos+(Utf8.decode s pos).2))→(∀b,W'.cell? b=W.cell? b)→(∀b,W'.frozen? b=W.frozen? b)→W'.heap.size=W.heap.size→(∀j,j≠k→W'.heap[j]?=W.heap[j]?)→Hid (Below k W W')→
   wpList P ops Q rest (a.put o.dst (.tuple #[.bool true, .int .i64 pos, .int .i32 (Utf8.decode s pos).1])) W'):wpList P ops Q (o::rest) a W:=by
 refine wpList_plain hgd fun K hK=> ?_
 have hr:=run_next_any_at (P:=P) W k s pos o.type hk hlt
 unfold Oper.wp execOp
 simp only [hop,hx,hr,Sem.run_bind,Result.andThen_ok,Sem.run_pure]
 exact hK _ _ (h (W.iterAt k s (pos+(Utf8.decode s pos).2)) (iterAt_heap W k s pos _ hk) (fqr W k s pos _ hk) (eqz W k s pos _ hk) (iterAt_size W k s _) (fun j hj=>iterAt_other W k j s _ hj) (below_iterAt Rf9 Nr _ _))
def dqM (wo:List UInt8) (c:UInt8):Bool:=decide (33≤c.toNat)&&decide (c.toNat≤126)&& !decide (0≤Lib.indexByte wo c)
def aq9 (wo l:List UInt8):Bool:=l.all (dqM wo)&& !l.isEmpty&&decide (l.length≤255)
theorem cqQ {wo l:List UInt8} {j:Nat} {b:UInt8} (h:l[j]?=some b) (hb:dqM wo b=false):aq9 wo l=false:=by
 have:l.all (dqM wo)=false:=by
  rw [List.all_eq_false]
  exact⟨b,List.mem_of_getElem? h,by simp [hb]⟩
 simp [aq9,this]
theorem aqU {s:ByteArray} {j:Nat} (h:j<s.size):s.data.toList[j]?=some (s[j]'h):=by
 have hl:s.data.toList.length=s.size:=by simp
 rw [List.getElem?_eq_getElem Om]
 rfl
theorem fqS (s wo:ByteArray) (w:World) (hm:s.size≤9223372036854775807):
  Calls Tryz.prog 48 #[.string s, .string wo] w fun e w'=>e= .returned (.bool (aq9 wo.data.toList s.data.toList))∧Below w.heap.size w w':=by
 go_enter Tryz.func48,Tryz.ntmps48
 go_wp2_with fail
 go_loopw [6] (fun _ wr=> ∃j:Nat,j≤s.size∧wr.heap[w.heap.size]?=some (.stringIter s j)∧(∀i,i<j→ ∀b,s.data.toList[i]?=some b→dqM wo.data.toList b=true)∧Hid (Below w.heap.size w wr)) (fun _ wr=>s.size - wr.iterPos w.heap.size)
 case atStart=>exact⟨0,by omega,by first|exact World.iter_heap w s 0|simp [World.iter],fun i hi=>absurd hi Om,by first|exact Rf9.alloc Nr _|exact Hq (Rf9.alloc Nr _)⟩
 case round=>
  obtain⟨j,hj,hk,hgood,HB⟩:=hrel
  have hkl:w.heap.size<wr.heap.size:=by
   rcases Nat.lt_or_ge w.heap.size wr.heap.size with h|h
   ·exact h
   rw [Array.getElem?_eq_none h] at hk
   cases hk
  by_cases hlt:j<s.size
  ·obtain⟨b,hb⟩: ∃b,b=s[j]'hlt:=⟨_,rfl⟩
   have hbl:s.data.toList[j]?=some b:=by rw [aqU hlt,hb]
   have hb2:=b.toNat_lt
   have hhigh0:128≤b.toNat→128≤(Utf8.decode s j).1:=fun h=> (decode_high s j hlt (by rw [←hb];exact h)).1
   clear hb
   by_cases h128:b.toNat<128
   ·by_cases h33:b.toNat<33
    ·have hbad:=cqQ (wo:=wo.data.toList) hbl (by simp [dqM];omega)
     have h33':(b.toNat:Int) <33:=by omega
     go_wp2_with (refine dqo rfl rfl rfl hk b.toNat (by rw [hbl];simp) h128 ?_;intro W1 hk1 hc1 hf1 hs1 hh1 hn1;clear hh1)
     go_ret
     exact⟨by first| (rw [hbad];rfl) |rfl,HB.out.trans (hn1.out)⟩
    by_cases h126:126<b.toNat
    ·have hbad:=cqQ (wo:=wo.data.toList) hbl (by simp [dqM];omega)
     have h33': ¬(b.toNat:Int) <33:=by omega
     have h126':(126:Int) <b.toNat:=by omega
     go_wp2_with (refine dqo rfl rfl rfl hk b.toNat (by rw [hbl];simp) h128 ?_;intro W1 hk1 hc1 hf1 hs1 hh1 hn1;clear hh1)
     go_ret
     exact⟨by first| (rw [hbad];rfl) |rfl,HB.out.trans (hn1.out)⟩
    have h33': ¬(b.toNat:Int) <33:=by omega
    have h126': ¬(126:Int) <b.toNat:=by omega
    obtain⟨H,hH⟩: ∃H,H=decide (0≤Lib.indexByte wo.data.toList b):=⟨_,rfl⟩
    have HC: ∀W,Calls Tryz.prog 71 #[.string wo, .int .i32 b.toNat] W fun e w'=>e= .returned (.bool H)∧w'=W:=fun W=>by
     have:=Tryz.strings_ContainsRune_ascii wo b.toNat W Om Om
     rw [Int.toNat_natCast,show b.toNat.toUInt8=b from UInt8.ofNat_toNat, ←hH] at this
     exact this
    have HC':=Hq HC
    have HH:=Hq hH
    clear HC hH
    cases H
    ·go_wp2_with (first| (refine dqo rfl rfl rfl hk b.toNat (by rw [hbl];simp) h128 ?_;intro W1 hk1 hc1 hf1 hs1 hh1 hn1;clear hh1) | (go_at_call 71;refine(HC'.out _).mono ?_;rintro e w2 ⟨rfl,rfl⟩))
     go_roundw
     case rel=>
      refine⟨j+1,by omega,hk1,fun i hi c hc=> ?_,Hq (HB.out.trans hn1.out)⟩
      by_cases hij:i=j
      ·subst hij
       rw [hbl] at hc
       injection hc with hc
       subst hc
       simp [dqM, ←HH.out]
       omega
      exact hgood i Om c hc
     case measure=>
      simp only [World.iterPos,hk1,hk]
      omega
    have hbad:=cqQ (wo:=wo.data.toList) hbl (by simp [dqM, ←HH.out])
    go_wp2_with (first| (refine dqo rfl rfl rfl hk b.toNat (by rw [hbl];simp) h128 ?_;intro W1 hk1 hc1 hf1 hs1 hh1 hn1;clear hh1) | (go_at_call 71;refine(HC'.out _).mono ?_;rintro e w2 ⟨rfl,rfl⟩))
    go_ret
    exact⟨by first| (rw [hbad];rfl) |rfl,HB.out.trans (hn1.out)⟩
   have hbad:=cqQ (wo:=wo.data.toList) hbl (by simp [dqM];omega)
   have hhigh:=hhigh0 Om
   obtain⟨r,hr⟩: ∃r,r=(Utf8.decode s j).1:=⟨_,rfl⟩
   rw [←hr] at hhigh
   clear hhigh0
   have h33': ¬r<33:=by omega
   have h126':126<r:=by omega
   have hdec:(Utf8.decode s j).1=r:=hr.symm
   clear hr
   go_wp2_with (refine hqE rfl rfl rfl hk hlt ?_;rw [hdec];intro W1 hk1 hc1 hf1 hs1 hh1 hn1;clear hh1)
   go_ret
   exact⟨by first| (rw [hbad];rfl) |rfl,HB.out.trans (hn1.out)⟩
  have hall:s.data.toList.all (dqM wo.data.toList)=true:=by
   rw [List.all_eq_true]
   intro b hb
   obtain⟨i,hi⟩:=List.mem_iff_getElem?.1 hb
   have hl:s.data.toList.length=s.size:=by simp
   have:=(List.getElem?_eq_some_iff.1 hi).1
   exact hgood i Om b hi
  have h255:s.size≤255∨ ¬s.size≤255:=by omega
  rcases h255 with h255|h255
  all_goals go_wp2_with (refine fqa rfl rfl rfl hk Sd ?_)
  all_goals go_ret
  all_goals refine⟨?_,HB.out⟩
  all_goals
   show Ending.returned (.bool _)=_
   have ht:s.toList=s.data.toList:=by cases s;exact ByteArray.toList_mk _
   have hsz:s.data.toList.length=s.size:=by simp
   congr 2
   rw [aq9,hall,hsz]
   cases hs:s.data.toList<;>simp_all<;> (try omega)
def eqm:UInt8→List UInt8→Bool
 |last, []=> !(last==47)
 |last,c::l=> !(c==47&&last==47)&&eqm c l
def aq1 (l:List UInt8):Bool:=aq9 [46,59,91] l&&eqm 47 l
theorem kqg {l:List UInt8} {j:Nat} {b lb:UInt8} (h:l[j]?=some b):eqm lb (l.drop j)=(!(b==47&&lb==47)&&eqm b (l.drop (j+1))):=by
 have hj:=(List.getElem?_eq_some_iff.1 h).1
 have he:=(List.getElem?_eq_some_iff.1 h).2
 rw [List.drop_eq_getElem_cons hj,he]
 rfl
theorem dq0 (s:ByteArray) (w:World) (hm:s.size≤9223372036854775807):
  Calls Tryz.prog 29 #[.string s] w fun e w'=>e= .returned (.bool (aq1 s.data.toList))∧Below w.heap.size w w':=by
 have HLT: ∀W,Calls Tryz.prog 48 #[.string s, .string ⟨#[46,59,91]⟩] W fun e w'=>e= .returned (.bool (aq9 [46,59,91] s.data.toList))∧Below W.heap.size W w':=fun W=>fqS s ⟨#[46,59,91]⟩ W hm
 have HL':=Hq HLT
 clear HLT
 by_cases hlet:aq9 [46,59,91] s.data.toList=true
 ·have hall: ∀b∈s.data.toList,dqM [46,59,91] b=true:=by
   simp only [aq9,Bool.and_eq_true] at hlet
   exact List.all_eq_true.1 hlet.1.1
  rw [hlet] at HL'
  have HLET:=Hq hlet
  have HALL:=Hq hall
  clear hlet hall
  go_enter Tryz.func29,Tryz.ntmps29
  go_wp2_with (go_at_call 48;refine(HL'.out _).mono ?_;rintro e w1 ⟨rfl,hb1⟩;have HB1:=Hq hb1;clear hb1)
  have hz1:=HB1.out.size
  go_loopw [3,5] (fun la _ wr=> ∃(j:Nat) (lb:UInt8),la= .int .i32 lb.toNat∧j≤s.size∧wr.heap[w1.heap.size]?=some (.stringIter s j)∧Hid (eqm 47 s.data.toList=eqm lb (s.data.toList.drop j))∧Hid (Below w.heap.size w wr)) (fun _ _ wr=>s.size - wr.iterPos w1.heap.size)
  case atStart=>exact⟨0,47,rfl,by omega,by first|exact World.iter_heap w1 s 0|simp [World.iter],by first|exact rfl|exact Hq rfl,by first|exact HB1.out.alloc hz1 _|exact Hq (HB1.out.alloc hz1 _)⟩
  case round=>
   obtain⟨j,lb,rfl,hj,hk,HS,HB⟩:=hrel
   have hlb:=lb.toNat_lt
   by_cases hlt:j<s.size
   ·obtain⟨b,hb⟩: ∃b,b=s[j]'hlt:=⟨_,rfl⟩
    have hbl:s.data.toList[j]?=some b:=by rw [aqU hlt,hb]
    have hg:=HALL.out b (List.mem_of_getElem? hbl)
    simp only [dqM,Bool.and_eq_true,decide_eq_true_eq] at hg
    have h128:b.toNat<128:=by omega
    have HST:=Hq (kqg (lb:=lb) hbl)
    clear hb hg
    by_cases h47:b.toNat=47
    ·have hbb:b=47:=UInt8.toNat_inj.1 h47
     subst hbb
     by_cases hl47:lb.toNat=47
     ·have hlb2:lb=47:=UInt8.toNat_inj.1 hl47
      subst hlb2
      go_wp2_with (refine dqo rfl rfl rfl hk 47 (by rw [hbl];rfl) Om ?_;intro W1 hk1 hc1 hf1 hs1 hh1 hn1;clear hh1)
      go_ret
      refine⟨?_,HB.out.trans (hn1.out.mono hz1)⟩
      have e:aq1 s.data.toList=false:=by simp [aq1,HS.out,HST.out]
      first| (rw [e];rfl) | (simp [e])
     have e1:((lb.toNat:Int)==47)=false:=by simp;omega
     go_wp2_with (refine dqo rfl rfl rfl hk 47 (by rw [hbl];rfl) Om ?_;intro W1 hk1 hc1 hf1 hs1 hh1 hn1;clear hh1)
     go_roundw
     case rel=>
      refine⟨j+1,47,rfl,by omega,hk1,Hq ?_,Hq (HB.out.trans (hn1.out.mono hz1))⟩
      rw [HS.out,HST.out]
      have:(lb==47)=false:=by
       rw [beq_eq_false_iff_ne]
       intro e
       subst e
       exact hl47 rfl
      simp [this]
     case measure=>
      simp only [World.iterPos,hk1,hk]
      omega
    have e1:((b.toNat:Int)==47)=false:=by simp;omega
    go_wp2_with (refine dqo rfl rfl rfl hk b.toNat (by rw [hbl];simp) h128 ?_;intro W1 hk1 hc1 hf1 hs1 hh1 hn1;clear hh1)
    go_roundw
    case rel=>
     refine⟨j+1,b,rfl,by omega,hk1,Hq ?_,Hq (HB.out.trans (hn1.out.mono hz1))⟩
     rw [HS.out,HST.out]
     have:(b==47)=false:=by
      rw [beq_eq_false_iff_ne]
      intro e
      subst e
      exact h47 rfl
     simp [this]
    case measure=>
     simp only [World.iterPos,hk1,hk]
     omega
   go_wp2_with (refine fqa rfl rfl rfl hk Sd ?_)
   go_ret
   refine⟨?_,HB.out⟩
   show Ending.returned (.bool _)=_
   congr 2
   have hd:s.data.toList.drop j= []:=List.drop_of_length_le Sd
   rw [aq1,HLET.out,HS.out,hd]
   show((lb.toNat:Int) !=47)=_
   by_cases h47:lb=47
   ·subst h47
    rfl
   have h1:lb.toNat≠47:=fun e=>h47 (UInt8.toNat_inj.1 e)
   have h2:(lb==47)=false:=by rw [beq_eq_false_iff_ne];exact h47
   simp [eqm,h2]
   omega
 have hf:aq9 [46,59,91] s.data.toList=false:=by simpa using hlet
 have hc:aq1 s.data.toList=false:=by simp [aq1,hf]
 rw [hf] at HL'
 clear hf hlet
 go_enter Tryz.func29,Tryz.ntmps29
 go_wp2_with (go_at_call 48;refine(HL'.out _).mono ?_;rintro e w1 ⟨rfl,hb1⟩;have HB1:=Hq hb1;clear hb1)
 go_ret
 exact⟨by first| (rw [hc];rfl) |rfl,HB1.out⟩
set_option maxHeartbeats 1000000
theorem cqe {pool:List Ko} {n:Int} {s:ByteArray} (h:aqf pool n=some s) (ht: ∀k∈pool,k.text.size≤65536):s.size≤65536:=by
 unfold aqf at h
 rcases hk:aqt pool n 1 with _|k
 ·rw [hk] at h
  cases h
 rw [hk] at h
 injection h with h
 subst h
 exact ht k (cqm hk).1
theorem eqn (c:aqc) (p ifs flds mths:Value) (k:Ko) (hk:k.tag=1∨k.tag=3) (w:World):
  Calls Tryz.prog 125 #[bqb c p ifs flds mths,koV k] w fun e w'=>e= .returned (.int .i64 0)∧Below w.heap.size w w':=by
 obtain⟨tag,tx,nu,a,b⟩:=k
 simp only at hk
 rw [aqe]
 simp only [koV]
 have HW:=Hq (((Below.refl w.heap.size w).alloc Nr (.cells #[.int .i64 c.minor, .int .i64 c.major,p, .int .i64 c.acc, .int .i64 c.this, .int .i64 c.sup,ifs,flds,mths] 179)).alloc Sp (.cells #[.int .i64 tag, .string tx, .int .i64 nu, .int .i64 a, .int .i64 b] 78))
 rcases hk with rfl|rfl
 all_goals
  go_enter Tryz.func125,Tryz.ntmps125
  go_wp2
  go_ret
  exact⟨rfl,HW.out⟩
def eqM (pool:List Ko) (a:Int):Int:=match aqf pool a with
 |none=>20
 |some s=>if aq1 s.data.toList then 0 else 21
theorem gqg (c:aqc) (A:Option Addr) (cap:Nat) (ifs flds mths:Value) (ok:Nat→Prop) (tx:ByteArray) (nu a b:Int) (w:World) (h:aqQ w ok c A cap ifs flds mths) (hn:bqA a) (ht: ∀k∈c.pool,k.text.size≤65536):
  Calls Tryz.prog 125 #[bqb c (.slice A c.pool.length cap) ifs flds mths,koV ⟨7,tx,nu,a,b⟩] w fun e w'=>e= .returned (.int .i64 (eqM c.pool a))∧Below w.heap.size w w':=by
 have HW0:=Hq (((Below.refl w.heap.size w).alloc Nr (.cells #[.int .i64 c.minor, .int .i64 c.major, .slice A c.pool.length cap, .int .i64 c.acc, .int .i64 c.this, .int .i64 c.sup,ifs,flds,mths] 179)).alloc Sp (.cells #[.int .i64 7, .string tx, .int .i64 nu, .int .i64 a, .int .i64 b] 78))
 have H0:=Hq (h.below HW0.out)
 have HN:=Hq hn
 rcases hx:aqf c.pool a with _|s
 ·have HX:=Hq hx
  have HP:=Hq (show eqM c.pool a=20 by unfold eqM;rw [hx])
  clear h hn hx
  rw [aqe]
  simp only [koV]
  go_enter Tryz.func125,Tryz.ntmps125
  go_wp2_with (go_at_call 97;refine(aqR c A cap ifs flds mths a ok _ H0.out HN.out).mono ?_;rw [HX.out];rintro e w1 ⟨rfl,hb⟩;simp only [cqh,Option.getD_none,Option.isSome_none];have HB:=Hq hb;clear hb)
  go_ret
  exact⟨by rw [HP.out];rfl,HW0.out.trans (HB.out.mono Sd)⟩
 have hsz:=cqe hx ht
 have HX:=Hq hx
 obtain⟨z,hz⟩: ∃z,aq1 s.data.toList=z:=⟨_,rfl⟩
 have HC:=Hq fun W=>dq0 s W Om
 rw [hz] at HC
 have HP:=Hq (show eqM c.pool a=if z then 0 else 21 by unfold eqM;rw [hx];simp only [hz])
 clear h hn hx hz
 rw [aqe]
 simp only [koV]
 cases z
 all_goals
  go_enter Tryz.func125,Tryz.ntmps125
  go_wp2_with (first| (go_at_call 97;refine(aqR c A cap ifs flds mths a ok _ H0.out HN.out).mono ?_;rw [HX.out];rintro e w1 ⟨rfl,hb⟩;simp only [cqh,Option.getD_some,Option.isSome_some];have HB:=Hq hb;clear hb) | (go_at_call 29;refine(HC.out _).mono ?_;rintro e w2 ⟨rfl,hb2⟩;have HB2:=Hq hb2;clear hb2))
  go_ret
  exact⟨by rw [HP.out];rfl,(HW0.out.trans (HB.out.mono Sd)).trans (HB2.out.mono (by have:=HB.out.size;simp at this;omega))⟩
def bqh (l:List UInt8):Bool:=aq9 [46,59,91,47,60,62] l
def dqN:List UInt8:= [60,105,110,105,116,62]
def bqG:List UInt8:= [60,99,108,105,110,105,116,62]
def aq5 (l:List UInt8):Bool:=l==dqN||l==bqG||bqh l
def aqD (l:List UInt8):Bool:=l== [73] || (decide (2<l.length)&&decide (l.length≤255)&&l.headD 0==76&&l.getLastD 0==59&&aq1 ((l.drop 1).take (l.length - 2)))
theorem eq2 (s:ByteArray) (w:World) (hm:s.size≤9223372036854775807):
  Calls Tryz.prog 154 #[.string s] w fun e w'=>e= .returned (.bool (bqh s.data.toList))∧Below w.heap.size w w':=by
 have HLT:=Hq (show∀W,Calls Tryz.prog 48 #[.string s, .string ⟨#[46,59,91,47,60,62]⟩] W fun e w'=>e= .returned (.bool (bqh s.data.toList))∧Below W.heap.size W w' from fun W=>fqS s ⟨#[46,59,91,47,60,62]⟩ W hm)
 go_enter Tryz.func154,Tryz.ntmps154
 go_wp2_with (go_at_call 48;refine(HLT.out _).mono ?_;rintro e w1 ⟨rfl,hb1⟩;have HB1:=Hq hb1;clear hb1)
 go_ret
 exact⟨rfl,HB1.out⟩
theorem fqT (s:ByteArray) (w:World) (hm:s.size≤9223372036854775807):
  Calls Tryz.prog 141 #[.string s] w fun e w'=>e= .returned (.bool (aq5 s.data.toList))∧Below w.heap.size w w':=by
 have HM:=Hq (fun W=>eq2 s W hm)
 obtain⟨b1,h1⟩: ∃b,b=(s.data.toList==dqN):=⟨_,rfl⟩
 obtain⟨b2,h2⟩: ∃b,b=(s.data.toList==bqG):=⟨_,rfl⟩
 have e1:(s.toList== [60,105,110,105,116,62])=b1:=by rw [ByteArray.toList_eq,h1];rfl
 have e2:(s.toList== [60,99,108,105,110,105,116,62])=b2:=by rw [ByteArray.toList_eq,h2];rfl
 have HE:=Hq (show aq5 s.data.toList=(b1||b2||bqh s.data.toList) by rw [h1,h2];rfl)
 clear h1 h2
 rw [HE.out]
 go_enter Tryz.func141,Tryz.ntmps141
 cases b1
 ·cases b2
  ·go_wp2_with (go_at_call 154;refine(HM.out _).mono ?_;rintro e w1 ⟨rfl,hb1⟩;have HB1:=Hq hb1;clear hb1)
   go_ret
   exact⟨by simp,HB1.out⟩
  go_wp2_with fail
  go_ret
  exact⟨by simp,Below.refl _ _⟩
 go_wp2_with fail
 go_ret
 exact⟨by simp,Below.refl _ _⟩
theorem dq1 (s:ByteArray) (i j:Nat):(s.extract i j).data.toList=(s.data.toList.drop i).take (j - i):=by
 rw [ByteArray.data_extract,Array.toList_extract,List.extract_eq_take_drop]
theorem hqF (s:ByteArray) (h:2<s.size):aqD s.data.toList=(decide (s.size≤255)&&((s[0]' Om)==76)&&((s[s.size - 1]' Om)==59)&&aq1 (s.extract 1 (s.size - 1)).data.toList):=by
 have hl:s.data.toList.length=s.size:=Array.length_toList
 have h0:=aqU (s:=s) (j:=0) Om
 have h1:=aqU (s:=s) (j:=s.size - 1) Om
 have e0:s.data.toList.headD 0=s[0]' Om:=by
  rw [List.headD_eq_head?_getD,List.head?_eq_getElem?,h0]
  rfl
 have e1:s.data.toList.getLastD 0=s[s.size - 1]' Om:=by
  rw [List.getLastD_eq_getLast?,List.getLast?_eq_getElem?,hl,h1]
  rfl
 have e2:(s.data.toList== [73])=false:=by
  rw [beq_eq_false_iff_ne]
  intro e
  rw [e] at hl
  simp at hl
  omega
 unfold aqD
 rw [e2,e0,e1,hl,dq1]
 have e3:s.size - 1 - 1=s.size - 2:=by omega
 rw [e3]
 simp [h]
theorem dqg (s:ByteArray) (w:World) (hm:s.size≤9223372036854775807):
  Calls Tryz.prog 142 #[.string s] w fun e w'=>e= .returned (.bool (aqD s.data.toList))∧Below w.heap.size w w':=by
 by_cases hn:2<s.size
 ·have HF:=Hq (hqF s hn)
  have HC:=Hq (fun W=>dq0 (s.extract 1 (s.size - 1)) W (by rw [ByteArray.size_extract];omega))
  have c1:decide ((s.size:Int) >2)=true:=by simp;omega
  have e1:(s.toList== [73])=false:=by
   rw [ByteArray.toList_eq,beq_eq_false_iff_ne]
   intro e
   have hl:s.data.toList.length=s.size:=Array.length_toList
   rw [e] at hl
   simp at hl
   omega
  rw [HF.out]
  go_enter Tryz.func142,Tryz.ntmps142
  by_cases hn2:s.size≤255
  ·have c2:decide ((s.size:Int)≤255)=true:=by simp;omega
   by_cases h0:((s[0]' Om).toNat:Int)=76
   ·by_cases h1:((s[s.size - 1]' Om).toNat:Int)=59
    ·have k0:((s[0]' Om)==76)=true:=by
      rw [beq_iff_eq, ←UInt8.toNat_inj]
      exact_mod_cast h0
     have k1:((s[s.size - 1]' Om)==59)=true:=by
      rw [beq_iff_eq, ←UInt8.toNat_inj]
      exact_mod_cast h1
     rw [k0,k1,decide_eq_true hn2]
     clear k0 k1
     go_wp2_with (go_at_call 29;refine(HC.out _).mono ?_;rintro e w1 ⟨rfl,hb1⟩;have HB1:=Hq hb1;clear hb1)
     go_ret
     exact⟨by simp,HB1.out⟩
    have k1:((s[s.size - 1]' Om)==59)=false:=by
     rw [beq_eq_false_iff_ne]
     intro e
     rw [e] at h1
     exact h1 rfl
    rw [k1]
    clear k1
    go_wp2_with fail
    go_ret
    exact⟨by simp,Below.refl _ _⟩
   have k0:((s[0]' Om)==76)=false:=by
    rw [beq_eq_false_iff_ne]
    intro e
    rw [e] at h0
    exact h0 rfl
   rw [k0]
   clear k0
   go_wp2_with fail
   go_ret
   exact⟨by simp,Below.refl _ _⟩
  have c2:decide ((s.size:Int)≤255)=false:=by simp;omega
  rw [decide_eq_false hn2]
  go_wp2_with fail
  go_ret
  exact⟨by simp,Below.refl _ _⟩
 have c1:decide ((s.size:Int) >2)=false:=by simp;omega
 have hl:s.data.toList.length=s.size:=Array.length_toList
 obtain⟨b1,h1⟩: ∃b,b=(s.data.toList== [73]):=⟨_,rfl⟩
 have e1:(s.toList== [73])=b1:=by rw [ByteArray.toList_eq,h1]
 have HF:=Hq (show aqD s.data.toList=b1 by
  unfold aqD
  rw [←h1,hl,decide_eq_false hn]
  simp)
 rw [HF.out]
 clear h1 hl
 go_enter Tryz.func142,Tryz.ntmps142
 cases b1
 ·go_wp2_with fail
  go_ret
  exact⟨rfl,Below.refl _ _⟩
 go_wp2_with fail
 go_ret
 exact⟨rfl,Below.refl _ _⟩
end Go.Proofs.YtdbniocnjhfhdaaGreatDoor
namespace Go.Proofs.YtdbniocnjhfhdaaGreatDoor
open Go Go.RowKit Lib Go.Shelf
attribute [local go_sem] Oper.semAt_some
def aqA (s:ByteArray):Nat:=if s.data.toList.headD 0=76 then(if Lib.indexByte s.data.toList 59= -1 then s.size else(Lib.indexByte s.data.toList 59).toNat+1) else 1
def dqh (bs:Nat) (w:World):Nat:=match w.cell? ⟨bs,0,none⟩ with
 |some (.string r)=>r.size
 |_=>0
theorem dq9 (s:ByteArray) (h:0<s.size):1≤aqA s∧aqA s≤s.size:=by
 have hl:s.data.toList.length=s.size:=Array.length_toList
 unfold aqA
 split
 ·split
  ·omega
  rename_i h2
  have h1:=Lib.indexByte_ge s.data.toList 59
  obtain⟨o,ho⟩: ∃o:Nat,Lib.indexByte s.data.toList 59=o:=⟨(Lib.indexByte s.data.toList 59).toNat,by omega⟩
  have:=(Lib.indexByte_some ho).1
  have:=(List.getElem?_eq_some_iff.1 this).1
  rw [ho]
  simp
  omega
 omega
theorem iqN (n l bs:Nat) (hn:1≤n) (J K:ByteArray→World→Prop) (Jx:World→Prop)
  (hJ: ∀r W,J r W→W.cell? ⟨bs,0,none⟩=some (.string r)∧W.frozen? ⟨bs,0,none⟩=false∧r.size≤255)
  (hK: ∀r W,K r W→W.cell? ⟨bs,0,none⟩=some (.string r)∧W.frozen? ⟨bs,0,none⟩=false)
  (hY: ∀r W,J r W→0<r.size→YieldAt Fence.wide (n - 1) Tryz.prog l #[.string (r.extract 0 (aqA r))] W fun e W'=> (e= .returned (.bool true)∧K r W')∨(e= .returned (.bool false)∧Jx W'))
  (hA: ∀r W,K r W→0<r.size→J (r.extract (aqA r) r.size) (W.setCell ⟨bs,0,none⟩ (.string (r.extract (aqA r) r.size))))
  (s:ByteArray) (W:World) (h0:J s W):
  CallsIn Fence.wide n Tryz.prog 177 #[.func (.yield l) #[] #[], .pointer (some ⟨bs,0,none⟩)] W fun e W'=> (∃v,e= .returned v)∧(J ⟨#[]⟩ W'∨Jx W'):=by
 refine callsIn_of_wp Tryz.func177 rfl trivial ?_ rfl
 simp only [Tryz.ntmps177,List.size_toArray,List.length_cons,List.length_nil,Nat.reduceAdd,Nat.reduceSub,Array.replicate_succ,Array.replicate_zero,List.push_toArray,List.append_toArray,List.nil_append,List.cons_append]
 gi_wp2
 gi_loopw [3] (fun _ wr=> ∃r:ByteArray,Hid (J r wr)) (fun _ wr=>dqh bs wr)
 case atStart=>exact⟨s,Hq h0⟩
 case round=>
  obtain⟨r,HJ⟩:=hrel
  obtain⟨hc,hf,hsz⟩:=hJ r wr HJ.out
  by_cases h0:0<r.size
  ·have hl:r.data.toList.length=r.size:=Array.length_toList
   have hne:(r.toList== [])=false:=by
    rw [ByteArray.toList_eq,beq_eq_false_iff_ne]
    intro e
    rw [e] at hl
    simp at hl
    omega
   have hd:r.data.toList.headD 0=r[0]' Om:=by
    rw [List.headD_eq_head?_getD,List.head?_eq_getElem?,aqU (s:=r) (j:=0) Om]
    rfl
   have HZ:=Hq (dq9 r h0)
   obtain⟨z,hz⟩: ∃z,Lib.indexByte r.data.toList 59=z:=⟨_,rfl⟩
   have hz1:=Lib.indexByte_ge r.data.toList 59
   have IB:=Hq (show∀W,Calls Tryz.prog 131 #[.string r, .int .u8 59] W fun e w'=>e= .returned (.int .i64 z)∧W=w' from fun W=> (Tryz.strings_IndexByte r 59 W).mono fun e w' h=> ⟨by rw [←hz];exact h.1,h.2.symm⟩)
   by_cases h76:((r[0]' Om).toNat:Int)=76
   ·have k0:r[0]' Om=76:=by
     rw [←UInt8.toNat_inj]
     exact_mod_cast h76
    by_cases hm:z= -1
    ·have hp:aqA r=r.size:=by
      unfold aqA
      rw [hd,k0,if_pos rfl,hz,if_pos hm]
     subst hm
     clear hz hz1 hd k0 hl
     have hp1:1≤r.size:=h0
     obtain⟨fn,tmps,assign,body,hy,hR⟩:=hY r wr HJ.out h0
     have HA:=Hq (fun W h=>hA r W h h0)
     rw [hp] at hy HA
     have hex:r.extract 0 r.size=r:=by simp
     rw [hex] at hy
     have HR:=Hq hR
     have HJ':=HJ
     clear hR hp HJ
     gi_wp2_with (refine⟨trivial, ?_⟩;gi_at_call 131;refine(callsIn_wide.2 (IB.out _)).mono ?_;rintro e w' ⟨rfl,rfl⟩)
     refine HR.out.mono ?_
     rintro e W3 (⟨rfl,hk⟩ | ⟨rfl,hx⟩)
     ·obtain⟨hc3,hf3⟩:=hK r W3 hk
      have HN:=Hq (HA.out W3 hk)
      have hl3:dqh bs (W3.setCell ⟨bs,0,none⟩ (.string (r.extract r.size r.size)))=r.size - r.size:=by
       unfold dqh
       rw [World.cell?_setCell_same' _ _ _ (by rw [hc3];rfl)]
       simp only [ByteArray.size_extract]
       omega
      have hl0:dqh bs wr=r.size:=by unfold dqh;rw [hc]
      have hee:r.extract r.size r.size=ByteArray.empty:=by simp
      rw [hee] at HN hl3
      clear hk HA
      gi_wp2
      go_roundw
      case rel=>exact⟨_,HN⟩
      case measure=>rw [hl3,hl0];omega
     have HX:=Hq hx
     clear hx
     gi_wp2
     refine bodyPost_ret (results_none rfl _ _ _) rfl ?_
     exact⟨⟨_,rfl⟩, .inr HX.out⟩
    obtain⟨o,rfl⟩: ∃o:Nat,z=o:=⟨z.toNat,by omega⟩
    have hp:aqA r=o+1:=by
     unfold aqA
     rw [hd,k0,if_pos rfl,hz,if_neg hm]
     simp
    have ho:o+1≤r.size:=by have:=HZ.out.2;omega
    have hq:((o:Int)+1==0)=false:=by simp;omega
    clear hz hz1 hd k0 hl hm
    obtain⟨fn,tmps,assign,body,hy,hR⟩:=hY r wr HJ.out h0
    have HA:=Hq (fun W h=>hA r W h h0)
    rw [hp] at hy HA
    have HR:=Hq hR
    have HJ':=HJ
    clear hR hp HJ
    gi_wp2_with (refine⟨trivial, ?_⟩;gi_at_call 131;refine(callsIn_wide.2 (IB.out _)).mono ?_;rintro e w' ⟨rfl,rfl⟩)
    refine HR.out.mono ?_
    rintro e W3 (⟨rfl,hk⟩ | ⟨rfl,hx⟩)
    ·obtain⟨hc3,hf3⟩:=hK r W3 hk
     have HN:=Hq (HA.out W3 hk)
     have hl3:dqh bs (W3.setCell ⟨bs,0,none⟩ (.string (r.extract (o+1) r.size)))=r.size - (o+1):=by
      unfold dqh
      rw [World.cell?_setCell_same' _ _ _ (by rw [hc3];rfl)]
      simp only [ByteArray.size_extract]
      omega
     have hl0:dqh bs wr=r.size:=by unfold dqh;rw [hc]
     clear hk HA
     gi_wp2
     go_roundw
     case rel=>exact⟨_,HN⟩
     case measure=>rw [hl3,hl0];omega
    have HX:=Hq hx
    clear hx
    gi_wp2
    refine bodyPost_ret (results_none rfl _ _ _) rfl ?_
    exact⟨⟨_,rfl⟩, .inr HX.out⟩
   have k0: ¬r[0]' Om=76:=by
    intro e
    rw [e] at h76
    exact h76 rfl
   have hp:aqA r=1:=by
    unfold aqA
    rw [hd,if_neg k0]
   clear hz hz1 hd k0 hl
   obtain⟨fn,tmps,assign,body,hy,hR⟩:=hY r wr HJ.out h0
   have HA:=Hq (fun W h=>hA r W h h0)
   rw [hp] at hy HA
   have HR:=Hq hR
   have HJ':=HJ
   clear hR hp HJ
   gi_wp2_with (refine⟨trivial, ?_⟩;gi_at_call 131;refine(callsIn_wide.2 (IB.out _)).mono ?_;rintro e w' ⟨rfl,rfl⟩)
   refine HR.out.mono ?_
   rintro e W3 (⟨rfl,hk⟩ | ⟨rfl,hx⟩)
   ·obtain⟨hc3,hf3⟩:=hK r W3 hk
    have HN:=Hq (HA.out W3 hk)
    have hl3:dqh bs (W3.setCell ⟨bs,0,none⟩ (.string (r.extract 1 r.size)))=r.size - 1:=by
     unfold dqh
     rw [World.cell?_setCell_same' _ _ _ (by rw [hc3];rfl)]
     simp only [ByteArray.size_extract]
     omega
    have hl0:dqh bs wr=r.size:=by unfold dqh;rw [hc]
    clear hk HA
    gi_wp2
    go_roundw
    case rel=>exact⟨_,HN⟩
    case measure=>rw [hl3,hl0];omega
   have HX:=Hq hx
   clear hx
   gi_wp2
   refine bodyPost_ret (results_none rfl _ _ _) rfl ?_
   exact⟨⟨_,rfl⟩, .inr HX.out⟩
  have hr:r=⟨#[]⟩:=by
   have:r.data= #[]:=Array.eq_empty_of_size_eq_zero (by show r.size=0;omega)
   exact ByteArray.ext this
  subst hr
  gi_wp2
  go_end0
  exact⟨⟨_,rfl⟩, .inl HJ.out⟩
def Stab (B:Nat) (I:World→Prop):Prop:= ∀(W:World) (l:Nat) (o o':Obj),B≤l→W.heap[l]?=some o→o.isCells=false→I W→I (W.putObj l o')
def mq9 (B:Nat) (K:World→Prop) (Ix:Code→World→Prop) (W:World):Exit→Act→World→Prop
 | .normal,_,W'=>KeepsFrom B W W'∧K W'
 | .exit id,_,W'=>KeepsFrom B W W'∧Ix (.exit id) W'
 |_,_,_=>False
theorem iqO {n:Nat} {g:Operand} {p:Tmp} {assign body:Code} {Q:Exit→Act→World→Prop} {a:Act} {w:World} {bs:Nat} (h2:2≤n)
  (hg:a.eval g= .func (.func 177) #[] #[.pointer (some ⟨bs,0,none⟩)]) (hbs:bs<w.heap.size)
  (I K:ByteArray→World→Prop) (Ix:Code→World→Prop) (s:ByteArray)
  (hI: ∀r W,I r W→W.cell? ⟨bs,0,none⟩=some (.string r)∧W.frozen? ⟨bs,0,none⟩=false∧r.size≤255)
  (hK: ∀r W,K r W→W.cell? ⟨bs,0,none⟩=some (.string r)∧W.frozen? ⟨bs,0,none⟩=false)
  (sI: ∀r,Stab w.heap.size (I r)) (sK: ∀r,Stab w.heap.size (K r)) (sx: ∀c,Stab w.heap.size (Ix c)) (aI: ∀W o,w.heap.size≤W.heap.size→I s W→I s (W.alloc o))
  (hA: ∀r W,K r W→0<r.size→I (r.extract (aqA r) r.size) (W.setCell ⟨bs,0,none⟩ (.string (r.extract (aqA r) r.size))))
  (h0:I s w) (a₁:ByteArray→Act)
  (hassign: ∀(l:Nat) (r:ByteArray) (W:World) (K':Act→World→Prop),K' (a₁ r) W→
   assign.wpIn (Fence.wide.inRound l) (n - 1 - 1) Tryz.prog (Exit.then K' (fun _ _ _=>False)) { tmps:=((#[p]:Array Tmp).zip #[Value.string (r.extract 0 (aqA r))]).foldl (fun t (p,v)=>t.setIfInBounds p v) a.tmps,defers:= [] } W)
  (hbody: ∀(l:Nat) (r:ByteArray) (W:World),I r W→0<r.size→body.wpIn (Fence.wide.inRound l) (n - 1 - 1) Tryz.prog (mq9 w.heap.size (K r) Ix W) (a₁ r) W)
  (hdone: ∀(D:Nat) (W:World),w.heap.size≤D→I ⟨#[]⟩ W→W.heap[D]?=some (.deferred (some []))→Q .normal { a with defers:={ target:= .collected D,args:= #[] }::a.defers } W)
  (hstop: ∀(D:Nat) (c:Code) (W:World),w.heap.size≤D→Ix c W→W.heap[D]?=some (.deferred (some []))→c.wpIn Fence.wide n Tryz.prog Q { a with defers:={ target:= .collected D,args:= #[] }::a.defers } W):
  (Code.rangeFunc g #[p] assign body).wpIn Fence.wide n Tryz.prog Q a w:=by
 refine wpIn_rangeFunc fun fn hfn=> ?_
 obtain⟨d,hd⟩: ∃d,w.heap.size=d:=⟨_,rfl⟩
 obtain⟨rc,hrc⟩: ∃rc:LoopState→Option Code→Loop,rc=fun st pe=> { state:=st,pending:=pe,fn,tmps:=a.tmps,params:= #[p],assign,body,defers:=w.heap.size }:=⟨_,rfl⟩
 have hr0:rc .ready none={ state:= .ready,pending:=none,fn,tmps:=a.tmps,params:= #[p],assign,body,defers:=w.heap.size }:=by rw [hrc]
 have hpar: ∀st pe,(rc st pe).params= #[p]:=fun st pe=>by rw [hrc]
 have hst: ∀st pe st' pe',{ rc st pe with state:=st',pending:=pe' }=rc st' pe':=fun st pe st' pe'=>by rw [hrc]
 refine⟨d+1, [{ target:= .collected d,args:= #[] }],(w.alloc (.deferred (some []))).alloc (.loop (rc .ready none)),{ target:= .fn (.func 177) #[.pointer (some ⟨bs,0,none⟩)],args:= #[.func (.yield (d+1)) #[] #[]] },(w.alloc (.deferred (some []))).alloc (.loop (rc .ready none)),177,
  #[.func (.yield (d+1)) #[] #[], .pointer (some ⟨bs,0,none⟩)],(w.alloc (.deferred (some []))).alloc (.loop (rc .ready none)), ?_, ?_,fun _ _=>trivial, ?_,fun h=> (by cases h), ?_⟩
 ·rw [hr0, ←hd]
  exact run_enterLoop_outer _ _ _ _ _
 ·simp only [resolve,hg]
  simp [go_sem]
 ·simp [invoke,go_sem,enters_of Tryz.func177 Kq9 rfl]
 have hW1:((w.alloc (.deferred (some []))).alloc (.loop (rc .ready none))).heap[d+1]?=some (.loop (rc .ready none)):=by
  have:=World.alloc_heap_new (w.alloc (.deferred (some []))) (.loop (rc .ready none))
  rw [World.size_alloc,hd] at this
  exact this
 have hW0:((w.alloc (.deferred (some []))).alloc (.loop (rc .ready none))).heap[d]?=some (.deferred (some [])):=by
  rw [←hd]
  exact(Below.heap_alloc _ _ _ Sp).trans (World.alloc_heap_new w _)
 have hI1:I s ((w.alloc (.deferred (some []))).alloc (.loop (rc .ready none))):=aI _ _ Sp (aI _ _ Nr h0)
 refine(iqN (n - 1) (d+1) bs Om
  (fun r W=>I r W∧W.heap[d+1]?=some (.loop (rc .ready none))∧W.heap[d]?=some (.deferred (some [])))
  (fun r W=>K r W∧W.heap[d+1]?=some (.loop (rc .ready none))∧W.heap[d]?=some (.deferred (some [])))
  (fun W=> ∃c,Ix c W∧W.heap[d+1]?=some (.loop (rc .done (some c)))∧W.heap[d]?=some (.deferred (some [])))
  (fun r W h=>hI r W h.1) (fun r W h=>hK r W h.1) ?_ ?_ s _ ⟨hI1,hW1,hW0⟩).mono ?_
 ·rintro r W ⟨hi,hl,hk⟩ hr
  have hlt:d+1<W.heap.size:=(Array.getElem?_eq_some_iff.1 hl).1
  have hy:=run_yield (P:=Tryz.prog) (args:= #[.string (r.extract 0 (aqA r))]) hl (by rw [hpar];rfl)
  rw [hr0] at hy
  refine⟨fn,_,assign,body,hy,roundIn_of_wpIn hfn ?_⟩
  refine hassign (d+1) r W _ ?_
  refine⟨_,run_beginRound hl (by rw [hrc]), ?_⟩
  have hl2:(W.putObj (d+1) (.loop { rc .ready none with state:= .busy })).heap[d+1]?=some (.loop { rc .ready none with state:= .busy }):=World.putObj_heap_same hlt
  have hk2:(W.putObj (d+1) (.loop { rc .ready none with state:= .busy })).heap[d]?=some (.deferred (some [])):=(World.putObj_heap_other Om).trans hk
  have hi2:=sI r W (d+1) _ (.loop { rc .ready none with state:= .busy }) Om hl rfl hi
  refine wpIn_mono (hbody (d+1) r _ hi2 hr) ?_
  rintro e a3 W3 hp
  have fin: ∀(jump:Option Code),KeepsFrom w.heap.size (W.putObj (d+1) (.loop { rc .ready none with state:= .busy })) W3→
    (Instr.endRound (d+1) jump).run Tryz.prog W3= .ok (.bool jump.isNone) (W3.putObj (d+1) (.loop (rc (if jump.isNone then .ready else .done) jump)))∧W3.heap[d+1]?=some (.loop { rc .ready none with state:= .busy })∧
    (W3.putObj (d+1) (.loop (rc (if jump.isNone then .ready else .done) jump))).heap[d+1]?=some (.loop (rc (if jump.isNone then .ready else .done) jump))∧
    (W3.putObj (d+1) (.loop (rc (if jump.isNone then .ready else .done) jump))).heap[d]?=some (.deferred (some [])):=fun jump hkf=>by
   have hl3:=hkf.same _ _ Om hl2 rfl
   have hk3:=hkf.same _ _ Om hk2 rfl
   have hrun:=run_endRound (P:=Tryz.prog) jump hl3
   refine⟨?_,hl3,World.putObj_heap_same (Array.getElem?_eq_some_iff.1 hl3).1,(World.putObj_heap_other Om).trans hk3⟩
   rw [hrun]
   simp only [hrc]
  cases e with
  |normal=>
   obtain⟨hkf,hk3⟩:=hp
   obtain⟨f1,f2,f3,f4⟩:=fin none hkf
   exact⟨_,_,f1, .inl ⟨rfl,sK r W3 (d+1) _ _ Om f2 rfl hk3,f3,f4⟩⟩
  |exit id=>
   obtain⟨hkf,hx3⟩:=hp
   obtain⟨f1,f2,f3,f4⟩:=fin (some (.exit id)) hkf
   exact⟨_,_,f1, .inr ⟨rfl, .exit id,sx _ W3 (d+1) _ _ Om f2 rfl hx3,f3,f4⟩⟩
  |ret=>exact hp.elim
  |goto t=>exact hp.elim
  |panic ch=>exact hp.elim
  |outgrown=>exact hp.elim
 ·rintro r W ⟨hk,hl,hd2⟩ hr
  exact⟨hA r W hk hr,(Below.heap_setCell W _ _ _ (by show d+1≠bs;omega)).trans hl,(Below.heap_setCell W _ _ _ (by show d≠bs;omega)).trans hd2⟩
 rintro e W2 ⟨⟨v,rfl⟩,(⟨hi,hl,hk⟩ | ⟨c,hx,hl,hk⟩)⟩
 ·have hrun:=run_endLoop (P:=Tryz.prog) hl (by rw [hrc];simp)
  rw [show(rc .ready none).pending=none by rw [hrc]] at hrun
  exact⟨none,_,hrun,hdone d _ Om (sI _ W2 (d+1) _ _ Om hl rfl hi) ((World.putObj_heap_other Om).trans hk)⟩
 have hrun:=run_endLoop (P:=Tryz.prog) hl (by rw [hrc];simp)
 rw [show(rc .done (some c)).pending=some c by rw [hrc]] at hrun
 exact⟨some c,_,hrun,hstop d c _ Om (sx c W2 (d+1) _ _ Om hl rfl hx) ((World.putObj_heap_other Om).trans hk)⟩
end Go.Proofs.YtdbniocnjhfhdaaGreatDoor
