/-
  What the laws rest on, part 20: walks of the program's functions and plain laws. Conditions: none but those that each theorem names.
-/
import Derived.Test.YtlcidkiplidamaaGreatDoorR19
import Derived.Test.YtlcidkiplidamaaGreatDoorR18
import Derived.WalkMore
import Derived.Test.YtlcidkiplidamaaGreatDoorR04
import Derived.Laws.RangeAny
import Derived.Test.YtlcidkiplidamaaGreatDoorR01
import Derived.Test.YtlcidkiplidamaaGreatDoorR02
import Derived.Test.YtlcidkiplidamaaGreatDoorR06
import Derived.Lib.SmallJoins
set_option linter.unusedSimpArgs false
set_option linter.unusedVariables false
set_option maxRecDepth 100000
set_option maxHeartbeats 1000000
namespace Go.Proofs.YtlcidkiplidamaaGreatDoor
open Go Go.RowKit Lib Go.Maps
theorem wpl_ins {P:Program} {w:World} {ops:Array Oper} {rest:List Oper} {o:Oper} {a:Act} {Q:Exit→Act→World→Prop} {k e t:TypeId} {b n sz:Nat} {f:List UInt8→Option Value} (hg:o.guard=none) (m x v:Operand) (hop:o.op=Op.insert t m x v) (hk:P.underlying k=some .string) (ht:P.underlying t=some (.map k e))
  (hm:a.eval m= .map (some b)) (h:MapS w P k b n f sz) (hn:n<maxLen) {s:ByteArray} (hx:a.eval x= .string s) (hs:s.size≤maxLen) {u:Value} (hv:a.eval v=u)
  (hK: ∀w',MapS w' P k b (n+1) (putF f s.data.toList u) (if(f s.data.toList).isSome then sz else sz+1)→w.grownBy w' (some b)→wpList P ops Q rest (a.put o.dst undef) w'):wpList P ops Q (o::rest) a w:=by
 obtain⟨D,hown,hsz,hat,hh⟩:=h
 have ht':=hown.tidy (string_keyed hk)
 obtain⟨w',hrun,hw,hgr⟩:=hown.update (string_keyed hk) ht hn (Go.WideMaps.keyOf_string_mk hk hs) (val:=u) (d:= .held u) (ps:= []) rfl
 refine wpList_plain hg fun K' hK'=> ?_
 unfold Oper.wp
 simp [execOp,hop,hm,hx,hv,hrun,Result.andThen]
 refine hK' _ _ (hK w' ⟨_,hw, ?_, ?_, ?_⟩ hgr)
 ·rw [size_put ht',hh,hsz]
 ·intro s' z
  unfold putF
  by_cases hs':s'=s.data.toList
  ·subst hs'
   rw [atKey_put_same ht'.isMap (by simp [WideAt.IsKeyLit]),if_pos rfl]
   rfl
  ·rw [atKey_put_other (lit_ne hs'),if_neg hs',hat]
 ·intro s'
  unfold putF
  by_cases hs':s'=s.data.toList
  ·subst hs'
   rw [has_put_same ht'.isMap (by simp [WideAt.IsKeyLit]),if_pos rfl]
   rfl
  ·rw [has_put_other (lit_ne hs'),if_neg hs',hh]
def flagF:List UInt8→Option Value:=(putF (putF (putF (putF (putF (putF (putF (putF (putF (fun _=>none) [112,117,98,108,105,99] (.int .i64 0)) [112,114,105,118,97,116,101] (.int .i64 1)) [112,114,111,116,101,99,116,101,100] (.int .i64 2)) [115,116,97,116,105,99] (.int .i64 3)) [102,105,110,97,108] (.int .i64 4)) [115,117,112,101,114] (.int .i64 5)) [110,97,116,105,118,101] (.int .i64 8)) [105,110,116,101,114,102,97,99,101] (.int .i64 9)) [97,98,115,116,114,97,99,116] (.int .i64 10))
theorem flagF_eq (l:List UInt8):flagF l=(flagTab.find? fun r=>r.1==l).map fun r=>Value.int .i64 (r.2:Int):=by
 unfold flagF putF
 by_cases h10:l= [97,98,115,116,114,97,99,116]
 ·subst h10;rfl
 rw [if_neg h10]
 by_cases h9:l= [105,110,116,101,114,102,97,99,101]
 ·subst h9;rfl
 rw [if_neg h9]
 by_cases h8:l= [110,97,116,105,118,101]
 ·subst h8;rfl
 rw [if_neg h8]
 by_cases h5:l= [115,117,112,101,114]
 ·subst h5;rfl
 rw [if_neg h5]
 by_cases h4:l= [102,105,110,97,108]
 ·subst h4;rfl
 rw [if_neg h4]
 by_cases h3:l= [115,116,97,116,105,99]
 ·subst h3;rfl
 rw [if_neg h3]
 by_cases h2:l= [112,114,111,116,101,99,116,101,100]
 ·subst h2;rfl
 rw [if_neg h2]
 by_cases h1:l= [112,114,105,118,97,116,101]
 ·subst h1;rfl
 rw [if_neg h1]
 by_cases h0:l= [112,117,98,108,105,99]
 ·subst h0;rfl
 rw [if_neg h0]
 have:flagTab.find? (fun r=>r.1==l)=none:=by
  rw [List.find?_eq_none]
  intro r hr
  simp only [flagTab,List.mem_cons,List.not_mem_nil,or_false] at hr
  rcases hr with rfl|rfl|rfl|rfl|rfl|rfl|rfl|rfl|rfl
  ·simpa using fun e=>h0 e.symm
  ·simpa using fun e=>h1 e.symm
  ·simpa using fun e=>h2 e.symm
  ·simpa using fun e=>h3 e.symm
  ·simpa using fun e=>h4 e.symm
  ·simpa using fun e=>h5 e.symm
  ·simpa using fun e=>h8 e.symm
  ·simpa using fun e=>h9 e.symm
  ·simpa using fun e=>h10 e.symm
 rw [this]
 rfl
theorem aFlag_eq (l:List UInt8):aFlag l=((flagTab.find? fun r=>r.1==l).map fun r=>2^r.2).getD 0:=by
 unfold aFlag
 cases flagTab.find? (fun r=>r.1==l) <;>rfl
theorem flag_any (s:ByteArray) (w:World) (hs:s.size≤maxLen):
  Calls Tryz.prog 135 #[.string s] w fun e w'=>e= .returned (.int .i64 (aFlag s.data.toList))∧Below w.heap.size w w':=by
 have HS:=Lib.hid hs
 clear hs
 have hmm:= @run_makeMap Tryz.prog
 have HM0:=Lib.hid (mapS_made w Tryz.prog 9)
 have HB0:=Lib.hid ((Below.refl w.heap.size w).alloc (Nat.le_refl _) (.map #[] 0))
 go_enter Tryz.func135,Tryz.ntmps135
 go_wp2_with (refine wpl_ins rfl _ _ _ rfl Tryz.underlying9 Tryz.underlying69 rfl HM0.out (by decide) rfl (by decide) rfl ?_;refine stop_here ?_)
 refine go_on ?_
 intro w1 hm hg
 have HM1:=Lib.hid hm
 have HB1:=Lib.hid (HB0.out.grown hg (by have:=HB0.out.size;simp) (fun k hk=>by cases hk;exact Nat.le_refl _))
 clear hm hg HM0 HB0
 go_wp2_with (refine wpl_ins rfl _ _ _ rfl Tryz.underlying9 Tryz.underlying69 rfl HM1.out (by decide) rfl (by decide) rfl ?_;refine stop_here ?_)
 refine go_on ?_
 intro w2 hm hg
 have HM2:=Lib.hid hm
 have HB2:=Lib.hid (HB1.out.grown hg (by have:=HB1.out.size;omega) (fun k hk=>by cases hk;exact Nat.le_refl _))
 clear hm hg HM1 HB1
 go_wp2_with (refine wpl_ins rfl _ _ _ rfl Tryz.underlying9 Tryz.underlying69 rfl HM2.out (by decide) rfl (by decide) rfl ?_;refine stop_here ?_)
 refine go_on ?_
 intro w3 hm hg
 have HM3:=Lib.hid hm
 have HB3:=Lib.hid (HB2.out.grown hg (by have:=HB2.out.size;omega) (fun k hk=>by cases hk;exact Nat.le_refl _))
 clear hm hg HM2 HB2
 go_wp2_with (refine wpl_ins rfl _ _ _ rfl Tryz.underlying9 Tryz.underlying69 rfl HM3.out (by decide) rfl (by decide) rfl ?_;refine stop_here ?_)
 refine go_on ?_
 intro w4 hm hg
 have HM4:=Lib.hid hm
 have HB4:=Lib.hid (HB3.out.grown hg (by have:=HB3.out.size;omega) (fun k hk=>by cases hk;exact Nat.le_refl _))
 clear hm hg HM3 HB3
 go_wp2_with (refine wpl_ins rfl _ _ _ rfl Tryz.underlying9 Tryz.underlying69 rfl HM4.out (by decide) rfl (by decide) rfl ?_;refine stop_here ?_)
 refine go_on ?_
 intro w5 hm hg
 have HM5:=Lib.hid hm
 have HB5:=Lib.hid (HB4.out.grown hg (by have:=HB4.out.size;omega) (fun k hk=>by cases hk;exact Nat.le_refl _))
 clear hm hg HM4 HB4
 go_wp2_with (refine wpl_ins rfl _ _ _ rfl Tryz.underlying9 Tryz.underlying69 rfl HM5.out (by decide) rfl (by decide) rfl ?_;refine stop_here ?_)
 refine go_on ?_
 intro w6 hm hg
 have HM6:=Lib.hid hm
 have HB6:=Lib.hid (HB5.out.grown hg (by have:=HB5.out.size;omega) (fun k hk=>by cases hk;exact Nat.le_refl _))
 clear hm hg HM5 HB5
 go_wp2_with (refine wpl_ins rfl _ _ _ rfl Tryz.underlying9 Tryz.underlying69 rfl HM6.out (by decide) rfl (by decide) rfl ?_;refine stop_here ?_)
 refine go_on ?_
 intro w7 hm hg
 have HM7:=Lib.hid hm
 have HB7:=Lib.hid (HB6.out.grown hg (by have:=HB6.out.size;omega) (fun k hk=>by cases hk;exact Nat.le_refl _))
 clear hm hg HM6 HB6
 go_wp2_with (refine wpl_ins rfl _ _ _ rfl Tryz.underlying9 Tryz.underlying69 rfl HM7.out (by decide) rfl (by decide) rfl ?_;refine stop_here ?_)
 refine go_on ?_
 intro w8 hm hg
 have HM8:=Lib.hid hm
 have HB8:=Lib.hid (HB7.out.grown hg (by have:=HB7.out.size;omega) (fun k hk=>by cases hk;exact Nat.le_refl _))
 clear hm hg HM7 HB7
 go_wp2_with (refine wpl_ins rfl _ _ _ rfl Tryz.underlying9 Tryz.underlying69 rfl HM8.out (by decide) rfl (by decide) rfl ?_;refine stop_here ?_)
 refine go_on ?_
 intro w9 hm hg
 have HM9:=Lib.hid hm
 have HB9:=Lib.hid (HB8.out.grown hg (by have:=HB8.out.size;omega) (fun k hk=>by cases hk;exact Nat.le_refl _))
 clear hm hg HM8 HB8
 have hf:=flagF_eq s.data.toList
 unfold flagF at hf
 obtain⟨q,hq⟩: ∃q,flagTab.find? (fun r=>r.1==s.data.toList)=q:=⟨_,rfl⟩
 rw [hq] at hf
 have HF:=Lib.hid hf
 clear hf
 go_wp2_with (refine wpl_look rfl _ _ rfl Tryz.underlying9 Tryz.underlying69 (z:= .int .i64 0) (by kernel_rfl) rfl HM9.out rfl HS.out ?_;refine stop_here ?_)
 refine go_on ?_
 rw [HF.out]
 have hfa:=aFlag_eq s.data.toList
 rw [hq] at hfa
 have HFA:=Lib.hid hfa
 clear hfa
 cases q with
 |none=>
  clear hq
  go_wp2_with fail
  go_ret
  exact⟨by rw [HFA.out];rfl,HB9.out⟩
 |some r=>
  have hm:=List.mem_of_find?_eq_some hq
  clear hq HF
  simp only [flagTab,List.mem_cons,List.not_mem_nil,or_false] at hm
  rcases hm with rfl|rfl|rfl|rfl|rfl|rfl|rfl|rfl|rfl
  all_goals
   go_wp2_with fail
   go_ret
   exact⟨by rw [HFA.out];rfl,HB9.out⟩
structure WdA (w:World) (ok:Nat→Prop) (A:Option Addr) (n cap:Nat) (ws:List ByteArray):Prop where
 len:n=ws.length
 le:n≤cap
 max:cap≤9223372036854775807
 hat:0<n→ ∃b off,A=some ⟨b,off,none⟩∧b<w.heap.size∧ok b∧ ∀(j:Nat) s,ws[j]?=some s→w.cell? ⟨b,off+j,none⟩=some (.string s)
theorem aFlag_lt (l:List UInt8):aFlag l<2048:=by
 unfold aFlag
 split
 ·rename_i r hr
  have hm:=List.mem_of_find?_eq_some hr
  have hall: ∀r∈flagTab,2^r.2<2048:=by decide
  exact hall r hm
 ·omega
theorem flags_step {ws:List ByteArray} {k acc:Nat} {s:ByteArray} (h:ws[k]?=some s):aFlags (ws.drop k) acc=if aFlag s.data.toList≠0∧acc&&&aFlag s.data.toList=0 then aFlags (ws.drop (k+1)) (acc|||aFlag s.data.toList) else none:=by
 have hlt:=(List.getElem?_eq_some_iff.1 h).1
 rw [List.drop_eq_getElem_cons hlt,(List.getElem?_eq_some_iff.1 h).2,aFlags]
def FPost (w:World) (n:Nat) (p:Option Nat) (e:Ending) (w':World):Prop:=Below w.heap.size w w'∧match p with|some acc=>e= .returned (.int .i64 acc) |none=>e=wrongE n
theorem fpost_none {w w':World} {n:Nat} {p:Option Nat} (hp:p=none) (hb:Below w.heap.size w w'):FPost w n p (wrongE n) w':=by
 subst hp
 exact⟨hb,rfl⟩
theorem fpost_some {w w':World} {n acc:Nat} {p:Option Nat} {e:Ending} (hp:p=some acc) (he:e= .returned (.int .i64 acc)) (hb:Below w.heap.size w w'):FPost w n p e w':=by
 subst hp
 exact⟨hb,he⟩
theorem aflags_any (kb:Nat) (vs:List Value) (n:Nat) (ok:Nat→Prop) (A:Option Addr) (len cap:Nat) (ws:List ByteArray) (w:World) (hb:Bx w kb vs 67) (hn:vs[11]?=some (.int .i64 n)) (hw:WdA w ok A len cap ws) (hz:SmW ws):
  Calls Tryz.prog 58 #[.pointer (some ⟨kb,0,none⟩), .slice A len cap] w (FPost w n (aFlags ws 0)):=by
 have HX:=Lib.hid hb
 have HW:=Lib.hid hw
 have HZ:=Lib.hid hz
 have HLN:=Lib.hid hw.len
 have hle:=hw.le
 have hmx:=hw.max
 have hkl:=hb.lt
 clear hb hw hz
 go_enter Tryz.func58,Tryz.ntmps58
 go_wp2_with fail
 go_loopw [5,7,8,11] (fun all _ _ i wr=> ∃(k acc:Nat),k≤len∧i= .int .i64 k∧all= .int .i64 acc∧acc<2048∧Hid (aFlags ws 0=aFlags (ws.drop k) acc)∧Hid (Below w.heap.size w wr)) (fun _ _ _ i _=>len - (RowKit.intOf i).toNat)
 case atStart=>exact⟨0,0,by omega,rfl,rfl,by omega,Lib.hid rfl,Lib.hid (Below.refl _ _)⟩
 case round=>
  obtain⟨k,acc,hk,rfl,rfl,hacc,HA,HB⟩:=hrel
  by_cases hlt:k<len
  ·obtain⟨s,hs⟩: ∃s,ws[k]?=some s:=⟨_,List.getElem?_eq_getElem (by have:=HLN.out;omega)⟩
   obtain⟨b,off,hA,hbl,_,hc⟩:=HW.out.hat (by omega)
   subst hA
   have c0:=(HB.out.cell (p:=⟨b,off+k,none⟩) hbl).trans (hc k s hs)
   clear hc
   have HST:=Lib.hid (HA.out.trans (flags_step hs))
   have hss:s.size≤maxLen:=by have:=HZ.out s (List.mem_of_getElem? hs);unfold maxLen;omega
   have hfl:=aFlag_lt s.data.toList
   have HFA:=Lib.hid (fun W=>flag_any s W hss)
   obtain⟨f,hf⟩: ∃f,aFlag s.data.toList=f:=⟨_,rfl⟩
   rw [hf] at HST hfl HFA
   clear hs hf hss
   have q0:=i64_and_nat acc f (by omega) (by omega)
   have q1:=i64_or_nat acc f (by omega) (by omega)
   by_cases h0:f=0
   ·subst h0
    have HN:=Lib.hid (HST.out.trans (if_neg (by simp)))
    go_wp2_with (first| (go_at_call 135;refine(HFA.out _).mono ?_;rintro e w1 ⟨rfl,hb1⟩;have B1:=Lib.hid (HB.out.trans (hb1.mono HB.out.size));clear hb1) | (go_at_call 26;refine stop_here ?_))
    refine go_on ?_
    refine(must_no kb vs n _ (HX.out.below B1.out hkl) hn).mono ?_
    rintro e w2 ⟨rfl,rfl⟩
    go_wp2_with fail
    exact(show _∧_ from⟨rfl,fpost_none HN.out B1.out⟩)
   ·have h0':((f:Int) !=0)=true:=by simpa using h0
    by_cases h1:acc&&&f=0
    ·have h1':(((acc&&&f:Nat):Int)==0)=true:=by rw [h1];rfl
     have HN:=Lib.hid (HST.out.trans (if_pos ⟨h0,h1⟩))
     go_wp2_with (first| (go_at_call 135;refine(HFA.out _).mono ?_;rintro e w1 ⟨rfl,hb1⟩;have B1:=Lib.hid (HB.out.trans (hb1.mono HB.out.size));clear hb1) | (go_at_call 26;refine stop_here ?_))
     refine go_on ?_
     refine(must_yes kb vs n _ (HX.out.below B1.out hkl) hn).mono ?_
     rintro e w2 ⟨rfl,rfl⟩
     go_wp2_with fail
     go_roundw
     case rel=>exact⟨k+1,acc|||f,by omega,by go_num,rfl,Nat.or_lt_two_pow (n:=11) hacc hfl,HN,B1⟩
     case measure=>simp [RowKit.intOf];omega
    ·have h1':(((acc&&&f:Nat):Int)==0)=false:=by rw [beq_eq_false_iff_ne];omega
     have HN:=Lib.hid (HST.out.trans (if_neg (fun h=>h1 h.2)))
     go_wp2_with (first| (go_at_call 135;refine(HFA.out _).mono ?_;rintro e w1 ⟨rfl,hb1⟩;have B1:=Lib.hid (HB.out.trans (hb1.mono HB.out.size));clear hb1) | (go_at_call 26;refine stop_here ?_))
     refine go_on ?_
     refine(must_no kb vs n _ (HX.out.below B1.out hkl) hn).mono ?_
     rintro e w2 ⟨rfl,rfl⟩
     go_wp2_with fail
     exact(show _∧_ from⟨rfl,fpost_none HN.out B1.out⟩)
  ·obtain rfl:k=len:=by omega
   have HN:=Lib.hid (show aFlags ws 0=some acc by rw [HA.out,HLN.out,List.drop_length,aFlags])
   go_wp2_with fail
   go_ret
   exact fpost_some HN.out rfl HB.out
end Go.Proofs.YtlcidkiplidamaaGreatDoor
namespace Go.Proofs.YtlcidkiplidamaaGreatDoor
open Go Go.RowKit Lib
theorem get_bang (s:ByteArray) (j:Nat) (h:j<s.size):s.get! j=s[j]'h:=by
 simp [ByteArray.get!,getElem!_pos,h]
 rfl
theorem decode_span (s:ByteArray) (pos:Nat) (h:pos<s.size) (ha:128≤(s[pos]'h).toNat):
  pos+(Utf8.decode s pos).2≤s.size∧ ∀j,pos≤j→(hj:j<pos+(Utf8.decode s pos).2)→128≤(s.get! j).toNat:=by
 have hb: ∀k,(s.get! (pos+k)).toNat<256:=fun k=> (s.get! (pos+k)).toNat_lt
 have e0:s.get! (pos+0)=s[pos]'h:=get_at s pos h
 have a0:128≤(s.get! (pos+0)).toNat:=by rw [e0];exact ha
 have hn: ¬(s.get! (pos+0)).toNat<128:=by omega
 have one:pos+1≤s.size∧ ∀j,pos≤j→j<pos+1→128≤(s.get! j).toNat:=⟨by omega,fun j h1 h2=>by
  obtain rfl:j=pos:=by omega
  exact a0⟩
 simp only [Utf8.decode,hn,if_false]
 split
 ·rename_i h1
  simp only [Bool.and_eq_true,decide_eq_true_eq,beq_iff_eq] at h1
  split
  ·refine⟨by show pos+2≤_;omega,fun j h3 h4=> ?_⟩
   have h4:j<pos+2:=h4
   obtain rfl|rfl:j=pos+0∨j=pos+1:=by omega
   ·exact a0
   ·have:=h1.2.2;omega
  ·exact one
 ·split
  ·rename_i h1
   simp only [Bool.and_eq_true,decide_eq_true_eq,beq_iff_eq] at h1
   split
   ·refine⟨by show pos+3≤_;omega,fun j h3 h4=> ?_⟩
    have h4:j<pos+3:=h4
    obtain rfl|rfl|rfl:j=pos+0∨j=pos+1∨j=pos+2:=by omega
    ·exact a0
    ·have:=h1.1.2.2;omega
    ·have:=h1.2.2;omega
   ·exact one
  ·split
   ·rename_i h1
    simp only [Bool.and_eq_true,decide_eq_true_eq,beq_iff_eq] at h1
    split
    ·refine⟨by show pos+4≤_;omega,fun j h3 h4=> ?_⟩
     have h4:j<pos+4:=h4
     obtain rfl|rfl|rfl|rfl:j=pos+0∨j=pos+1∨j=pos+2∨j=pos+3:=by omega
     ·exact a0
     ·have:=h1.1.1.2.2;omega
     ·have:=h1.1.2.2;omega
     ·have:=h1.2.2;omega
    ·exact one
   ·exact one
theorem words_take (bs l cur:List UInt8) (h: ∀b∈bs,blankB b=false):aWordsGo (bs++l) cur=aWordsGo l (cur++bs):=by
 induction bs generalizing cur with
 |nil=>simp
 |cons b bs ih=>
  rw [List.cons_append,aWordsGo,h b (by simp)]
  simp only [Bool.false_eq_true,if_false]
  rw [ih (cur++ [b]) (fun x hx=>h x (by simp [hx]))]
  simp
theorem words_high (s:ByteArray) (pos:Nat) (h:pos<s.size) (ha:128≤(s[pos]'h).toNat) (cur:List UInt8):
  aWordsGo (s.data.toList.drop pos) cur=aWordsGo (s.data.toList.drop (pos+(Utf8.decode s pos).2)) (cur++(s.data.toList.drop pos).take (Utf8.decode s pos).2):=by
 have hs:=decode_span s pos h ha
 have hl:s.data.toList.length=s.size:=Array.length_toList
 conv=>lhs;rw [←List.take_append_drop (Utf8.decode s pos).2 (s.data.toList.drop pos)]
 rw [words_take,List.drop_drop]
 intro b hb
 obtain⟨i,hi,e⟩:=List.mem_iff_getElem.1 hb
 rw [List.length_take,List.length_drop] at hi
 rw [List.getElem_take,List.getElem_drop] at e
 have hx:=hs.2 (pos+i) (by omega) (by omega)
 rw [get_bang s (pos+i) (by omega)] at hx
 have e2:s[pos+i]'(by omega)=b:=e
 rw [e2] at hx
 unfold blankB
 simp only [Bool.or_eq_false_iff,beq_eq_false_iff_ne]
 constructor
 ·rintro rfl;revert hx;decide
 ·rintro rfl;revert hx;decide
def FromIs (s:ByteArray) (j:Nat) (cur:List UInt8) (f:Int):Prop:=(cur= []∧f= -1)∨(cur≠ []∧ ∃n:Nat,f=n∧n<j∧cur=(s.data.toList.drop n).take (j - n))
theorem fromIs_more {s:ByteArray} {j n:Nat} {cur:List UInt8} {f:Int} (h:FromIs s j cur f) (hn:0<n) (hj:j+n≤s.size):FromIs s (j+n) (cur++(s.data.toList.drop j).take n) (if f<0 then(j:Int) else f):=by
 have hl:s.data.toList.length=s.size:=Array.length_toList
 have hne:(s.data.toList.drop j).take n≠ []:=by
  intro e
  have:=congrArg List.length e
  rw [List.length_take,List.length_drop,hl] at this
  simp at this
  omega
 rcases h with⟨rfl,rfl⟩ | ⟨h1,m,rfl,h2,h3⟩
 ·refine .inr ⟨by simpa using hne,j,by simp,by omega, ?_⟩
  rw [List.nil_append,show j+n - j=n by omega]
 ·refine .inr ⟨by simp [h1],m,by rw [if_neg (by omega)],by omega, ?_⟩
  rw [h3,show j+n - m=(j - m)+n by omega,List.take_add,List.drop_drop,show m+(j - m)=j by omega]
theorem fromIs_one {s:ByteArray} {j:Nat} {cur:List UInt8} {f:Int} {b:UInt8} (h:FromIs s j cur f) (hb:s.data.toList[j]?=some b):FromIs s (j+1) (cur++ [b]) (if f<0 then(j:Int) else f):=by
 have hl:s.data.toList.length=s.size:=Array.length_toList
 have hlt:=(List.getElem?_eq_some_iff.1 hb).1
 have h1:=fromIs_more (n:=1) h (by omega) (by omega)
 rw [List.drop_eq_getElem_cons hlt,(List.getElem?_eq_some_iff.1 hb).2] at h1
 exact h1
def strL (L:List (List UInt8)):List Value:=L.map fun x=>Value.string ⟨x.toArray⟩
theorem words_blank {s:ByteArray} {j:Nat} {b:UInt8} {cur:List UInt8} (hb:s.data.toList[j]?=some b) (h:blankB b=true):aWordsGo (s.data.toList.drop j) cur=(if cur= [] then [] else [cur])++aWordsGo (s.data.toList.drop (j+1)) []:=by
 have hlt:=(List.getElem?_eq_some_iff.1 hb).1
 rw [List.drop_eq_getElem_cons hlt,(List.getElem?_eq_some_iff.1 hb).2,aWordsGo,h]
 simp only [if_true]
 split<;>rfl
theorem words_letter {s:ByteArray} {j:Nat} {b:UInt8} {cur:List UInt8} (hb:s.data.toList[j]?=some b) (h:blankB b=false):aWordsGo (s.data.toList.drop j) cur=aWordsGo (s.data.toList.drop (j+1)) (cur++ [b]):=by
 have hlt:=(List.getElem?_eq_some_iff.1 hb).1
 rw [List.drop_eq_getElem_cons hlt,(List.getElem?_eq_some_iff.1 hb).2,aWordsGo,h]
 simp
theorem words_any (s:ByteArray) (w:World) (hm:s.size≤1000000):
  Calls Tryz.prog 23 #[.string s] w fun e w'=> ∃v,e= .returned v∧Below w.heap.size w w'∧w'.ownsRow w.heap.size 9 1 v (aWords s).length ((aWords s).map Value.string):=by
 have hl:s.data.toList.length=s.size:=Array.length_toList
 go_enter Tryz.func23,Tryz.ntmps23
 go_wp2_with fail
 go_loopw [3,4,5,6,7] (fun lv fv _ _ _ wr=> ∃(j:Nat) (L:List (List UInt8)) (cur:List UInt8) (f:Int),j≤s.size∧fv= .int .i64 f∧wr.heap[w.heap.size]?=some (.stringIter s j)∧L.length≤j∧Hid (wr.ownsRow (w.heap.size+1) 9 1 lv L.length (strL L))∧Hid (FromIs s j cur f)∧Hid (L++aWordsGo (s.data.toList.drop j) cur=aWordsGo s.data.toList [])∧Hid (Below w.heap.size w wr)) (fun _ _ _ _ _ wr=>s.size - wr.iterPos w.heap.size)
 case atStart=>exact⟨0, [], [], -1,by omega,rfl,by first|exact World.iter_heap w s 0|simp [World.iter],by simp,Lib.hid (World.ownsRow_nil _ _ _ _),Lib.hid (.inl ⟨rfl,rfl⟩),Lib.hid (by simp),by first|exact Lib.hid ((Below.refl _ _).alloc (Nat.le_refl _) _)⟩
 case round=>
  obtain⟨j,L,cur,f,hj,rfl,hk,hLj,HO,HF,HW,HB⟩:=hrel
  have hkl:w.heap.size<wr.heap.size:=by
   rcases Nat.lt_or_ge w.heap.size wr.heap.size with h|h
   ·exact h
   ·rw [Array.getElem?_eq_none h] at hk
    cases hk
  have hip:wr.iterPos w.heap.size=j:=by unfold World.iterPos;rw [hk]
  by_cases hlt:j<s.size
  ·obtain⟨b,hb⟩: ∃b,b=s[j]'hlt:=⟨_,rfl⟩
   have hbl:s.data.toList[j]?=some b:=by rw [byte_list hlt,hb]
   have hb2:=b.toNat_lt
   have HHI:=Lib.hid (fun h:128≤b.toNat=>decode_high s j hlt (by rw [←hb];exact h))
   have HSP:=Lib.hid (fun h:128≤b.toNat=>decode_span s j hlt (by rw [←hb];exact h))
   have HWH:=Lib.hid (fun h:128≤b.toNat=>words_high s j hlt (by rw [←hb];exact h) cur)
   clear hb
   by_cases h128:b.toNat<128
   ·by_cases hbk:blankB b=true
    ·have hb32:b=32∨b=9:=by
      unfold blankB at hbk
      simpa using hbk
     have HWB:=Lib.hid (words_blank (cur:=cur) hbl hbk)
     rcases HF.out with⟨hc,hf⟩ | ⟨hc,n,hf,hnj,hcur⟩
     ·subst hc
      subst hf
      rcases hb32 with rfl|rfl
      ·go_wp2_with (refine wpl_next rfl rfl rfl hk 32 (by rw [hbl];rfl) (by omega) ?_;intro W1 hk1 hc1 hf1 hs1 hh1 hn1;have HH:=Lib.hid hh1;clear hh1)
       go_roundw
       case rel=>exact⟨j+1,L, [], -1,by omega,rfl,hk1,by omega,Lib.hid (own_heap HO.out fun q hq=>HH.out q (by have:=(HO.out.lt q hq).1;omega)),Lib.hid (.inl ⟨rfl,rfl⟩),Lib.hid (HW.out▸(by rw [HWB.out];rfl)),Lib.hid (HB.out.trans hn1.out)⟩
       case measure=>simp only [World.iterPos,hk1,hk];omega
      ·go_wp2_with (refine wpl_next rfl rfl rfl hk 9 (by rw [hbl];rfl) (by omega) ?_;intro W1 hk1 hc1 hf1 hs1 hh1 hn1;have HH:=Lib.hid hh1;clear hh1)
       go_roundw
       case rel=>exact⟨j+1,L, [], -1,by omega,rfl,hk1,by omega,Lib.hid (own_heap HO.out fun q hq=>HH.out q (by have:=(HO.out.lt q hq).1;omega)),Lib.hid (.inl ⟨rfl,rfl⟩),Lib.hid (HW.out▸(by rw [HWB.out];rfl)),Lib.hid (HB.out.trans hn1.out)⟩
       case measure=>simp only [World.iterPos,hk1,hk];omega
     ·have HEX:=Lib.hid (show s.extract n j=⟨cur.toArray⟩ from ByteArray.ext (Array.toList_inj.1 (by rw [extract_list,hcur])))
      subst hf
      clear hcur
      have hnn: ¬(n:Int) <0:=by omega
      have hnj2:(n:Int)≤(j:Int):=by omega
      have hjs:(j:Int)≤(s.size:Int):=by omega
      rcases hb32 with rfl|rfl
      ·go_wp2_with (first| (refine wpl_next rfl rfl rfl hk 32 (by rw [hbl];rfl) (by omega) ?_;intro W1 hk1 hc1 hf1 hs1 hh1 hn1;have HH:=Lib.hid hh1;have HN:=Lib.hid hn1;clear hh1 hn1) | (at_builtin;refine stop_here ?_))
       refine go_on ?_
       refine wpl_append rfl _ _ 43 rfl Tryz.underlying43 info_string rfl (by omega) (w.heap.size+1) rfl ((own_heap HO.out fun q hq=>HH.out q (by have:=(HO.out.lt q hq).1;omega)).alloc _) rfl rfl (cells_new_at _ _ _ _ (by first|rfl|omega| (simp<;>omega))) (by simp [Value.oneCell']) (by simp only [maxLen];omega) (by omega) (by first|rfl|omega| (simp<;>omega)) ?_
       intro v' W2 ho hg hb2
       have hz2:=hg.size
       simp only [World.size_alloc] at hz2
       have HI2:=Lib.hid ((hg.block w.heap.size (by simp;omega) (fun e=>by have:=(HO.out.lt _ e.symm).1;omega)).trans ((Below.heap_alloc _ _ _ (by omega)).trans hk1))
       have HO2:=Lib.hid ho
       have HB2:=Lib.hid (HB.out.trans (((HN.out.mono (Nat.le_refl _)).alloc (by omega) _).trans (hb2.mono (by omega))))
       clear ho hg hb2
       go_wp2_with fail
       go_roundw
       case rel=>exact⟨j+1,L++ [cur], [], -1,by omega,rfl,HI2.out,by simp;omega,Lib.hid (own_eq HO2.out (by simp) (by rw [HEX.out];simp [strL])),Lib.hid (.inl ⟨rfl,rfl⟩),Lib.hid (HW.out▸(by rw [HWB.out,if_neg hc];simp)),HB2⟩
       case measure=>have hk2:=HI2.out;simp only [World.iterPos,hk2,hk];omega
      ·go_wp2_with (first| (refine wpl_next rfl rfl rfl hk 9 (by rw [hbl];rfl) (by omega) ?_;intro W1 hk1 hc1 hf1 hs1 hh1 hn1;have HH:=Lib.hid hh1;have HN:=Lib.hid hn1;clear hh1 hn1) | (at_builtin;refine stop_here ?_))
       refine go_on ?_
       refine wpl_append rfl _ _ 43 rfl Tryz.underlying43 info_string rfl (by omega) (w.heap.size+1) rfl ((own_heap HO.out fun q hq=>HH.out q (by have:=(HO.out.lt q hq).1;omega)).alloc _) rfl rfl (cells_new_at _ _ _ _ (by first|rfl|omega| (simp<;>omega))) (by simp [Value.oneCell']) (by simp only [maxLen];omega) (by omega) (by first|rfl|omega| (simp<;>omega)) ?_
       intro v' W2 ho hg hb2
       have hz2:=hg.size
       simp only [World.size_alloc] at hz2
       have HI2:=Lib.hid ((hg.block w.heap.size (by simp;omega) (fun e=>by have:=(HO.out.lt _ e.symm).1;omega)).trans ((Below.heap_alloc _ _ _ (by omega)).trans hk1))
       have HO2:=Lib.hid ho
       have HB2:=Lib.hid (HB.out.trans (((HN.out.mono (Nat.le_refl _)).alloc (by omega) _).trans (hb2.mono (by omega))))
       clear ho hg hb2
       go_wp2_with fail
       go_roundw
       case rel=>exact⟨j+1,L++ [cur], [], -1,by omega,rfl,HI2.out,by simp;omega,Lib.hid (own_eq HO2.out (by simp) (by rw [HEX.out];simp [strL])),Lib.hid (.inl ⟨rfl,rfl⟩),Lib.hid (HW.out▸(by rw [HWB.out,if_neg hc];simp)),HB2⟩
       case measure=>have hk2:=HI2.out;simp only [World.iterPos,hk2,hk];omega
    ·have hbk:blankB b=false:=by simpa using hbk
     have hq:((b.toNat:Int)==32)=false∧((b.toNat:Int)==9)=false:=by
      unfold blankB at hbk
      simp only [Bool.or_eq_false_iff,beq_eq_false_iff_ne] at hbk
      constructor
      ·rw [beq_eq_false_iff_ne];intro e;exact hbk.1 (UInt8.toNat_inj.1 (by rw [show b.toNat=32 by omega];rfl))
      ·rw [beq_eq_false_iff_ne];intro e;exact hbk.2 (UInt8.toNat_inj.1 (by rw [show b.toNat=9 by omega];rfl))
     obtain⟨hq1,hq2⟩:=hq
     have HWB:=Lib.hid (words_letter (cur:=cur) hbl hbk)
     have HF1:=Lib.hid (fromIs_one HF.out hbl)
     rcases HF.out with⟨hc,hf⟩ | ⟨hc,n,hf,hnj,hcur⟩
     ·subst hf
      go_wp2_with (refine wpl_next rfl rfl rfl hk b.toNat (by rw [hbl];simp) h128 ?_;intro W1 hk1 hc1 hf1 hs1 hh1 hn1;have HH:=Lib.hid hh1;have HN:=Lib.hid hn1;clear hh1 hn1)
      go_roundw
      case rel=>exact⟨j+1,L,cur++ [b],j,by omega,rfl,hk1,by omega,Lib.hid (own_heap HO.out fun q hq=>HH.out q (by have:=(HO.out.lt q hq).1;omega)),HF1,Lib.hid (HW.out▸(by rw [HWB.out])),Lib.hid (HB.out.trans HN.out)⟩
      case measure=>simp only [World.iterPos,hk1,hk];omega
     ·subst hf
      clear hcur
      have hnn: ¬(n:Int) <0:=by omega
      go_wp2_with (refine wpl_next rfl rfl rfl hk b.toNat (by rw [hbl];simp) h128 ?_;intro W1 hk1 hc1 hf1 hs1 hh1 hn1;have HH:=Lib.hid hh1;have HN:=Lib.hid hn1;clear hh1 hn1)
      go_roundw
      case rel=>exact⟨j+1,L,cur++ [b],n,by omega,rfl,hk1,by omega,Lib.hid (own_heap HO.out fun q hq=>HH.out q (by have:=(HO.out.lt q hq).1;omega)),Lib.hid (by have h:=HF1.out;rw [if_neg hnn] at h;exact h),Lib.hid (HW.out▸(by rw [HWB.out])),Lib.hid (HB.out.trans HN.out)⟩
      case measure=>simp only [World.iterPos,hk1,hk];omega
   ·have hge:128≤b.toNat:=by omega
    obtain⟨r,hdec⟩: ∃r,(Utf8.decode s j).1=r:=⟨_,rfl⟩
    obtain⟨m,hdec2⟩: ∃m,(Utf8.decode s j).2=m:=⟨_,rfl⟩
    have h1:=HHI.out hge
    have h2:=(HSP.out hge).1
    have HWB:=Lib.hid (HWH.out hge)
    rw [hdec2] at HWB h1 h2
    rw [hdec] at h1
    have HF1:=Lib.hid (fromIs_more (n:=m) HF.out (by omega) (by omega))
    have hq1:((r:Int)==32)=false:=by rw [beq_eq_false_iff_ne];omega
    have hq2:((r:Int)==9)=false:=by rw [beq_eq_false_iff_ne];omega
    rcases HF.out with⟨hc,hf⟩ | ⟨hc,n,hf,hnj,hcur⟩
    ·subst hf
     go_wp2_with (refine wpl_next_any rfl rfl rfl hk hlt ?_;rw [hdec,hdec2];intro W1 hk1 hc1 hf1 hs1 hh1 hn1;have HH:=Lib.hid hh1;have HN:=Lib.hid hn1;clear hh1 hn1)
     go_roundw
     case rel=>exact⟨j+m,L,cur++(s.data.toList.drop j).take m,j,by omega,rfl,hk1,by omega,Lib.hid (own_heap HO.out fun q hq=>HH.out q (by have:=(HO.out.lt q hq).1;omega)),HF1,Lib.hid (HW.out▸(by rw [HWB.out])),Lib.hid (HB.out.trans HN.out)⟩
     case measure=>simp only [World.iterPos,hk1,hk];omega
    ·subst hf
     clear hcur
     have hnn: ¬(n:Int) <0:=by omega
     go_wp2_with (refine wpl_next_any rfl rfl rfl hk hlt ?_;rw [hdec,hdec2];intro W1 hk1 hc1 hf1 hs1 hh1 hn1;have HH:=Lib.hid hh1;have HN:=Lib.hid hn1;clear hh1 hn1)
     go_roundw
     case rel=>exact⟨j+m,L,cur++(s.data.toList.drop j).take m,n,by omega,rfl,hk1,by omega,Lib.hid (own_heap HO.out fun q hq=>HH.out q (by have:=(HO.out.lt q hq).1;omega)),Lib.hid (by have h:=HF1.out;rw [if_neg hnn] at h;exact h),Lib.hid (HW.out▸(by rw [HWB.out])),Lib.hid (HB.out.trans HN.out)⟩
     case measure=>simp only [World.iterPos,hk1,hk];omega
  ·obtain rfl:j=s.size:=by omega
   have HWE:=Lib.hid (show aWordsGo s.data.toList []=L++(if cur= [] then [] else [cur]) by rw [←HW.out,List.drop_of_length_le (by rw [hl];exact Nat.le_refl _),aWordsGo])
   have HAW:=Lib.hid (fun(L':List (List UInt8)) (h:aWordsGo s.data.toList []=L')=> (show(aWords s).map Value.string=strL L'∧(aWords s).length=L'.length by
    unfold aWords strL
    rw [h,List.map_map,List.length_map]
    exact⟨rfl,rfl⟩))
   rcases HF.out with⟨hc,hf⟩ | ⟨hc,n,hf,hnj,hcur⟩
   ·subst hf
    subst hc
    have HAL:=Lib.hid (HAW.out L (by rw [HWE.out];simp))
    go_wp2_with (refine wpl_next_end rfl rfl rfl hk (by simp) ?_)
    go_ret
    exact⟨_,rfl,HB.out,own_eq (Go.Joins.ownsRow_le HO.out (by omega)) HAL.out.2.symm HAL.out.1.symm⟩
   ·have HEX:=Lib.hid (show s.extract n s.size=⟨cur.toArray⟩ from ByteArray.ext (Array.toList_inj.1 (by rw [extract_list,hcur])))
    have HAL:=Lib.hid (HAW.out (L++ [cur]) (by rw [HWE.out,if_neg hc]))
    subst hf
    clear hcur
    have hnn: ¬(n:Int) <0:=by omega
    have hnj2:(n:Int)≤(s.size:Int):=by omega
    go_wp2_with (first| (refine wpl_next_end rfl rfl rfl hk (by simp) ?_) | (at_builtin;refine stop_here ?_))
    refine go_on ?_
    refine wpl_append rfl _ _ 43 rfl Tryz.underlying43 info_string rfl (by omega) (w.heap.size+1) rfl (HO.out.alloc _) rfl rfl (cells_new_at _ _ _ _ (by first|rfl|omega| (simp<;>omega))) (by simp [Value.oneCell']) (by simp only [maxLen];omega) (by omega) (by first|rfl|omega| (simp<;>omega)) ?_
    intro v' W2 ho hg hb2
    have hz2:=hg.size
    simp only [World.size_alloc] at hz2
    have HO2:=Lib.hid ho
    have HB2:=Lib.hid (HB.out.trans (((Below.refl w.heap.size _).alloc (by omega) _).trans (hb2.mono (by omega))))
    clear ho hg hb2
    go_wp2_with fail
    go_ret
    exact⟨_,rfl,HB2.out,own_eq (Go.Joins.ownsRow_le HO2.out (by omega)) (by rw [HAL.out.2];simp) (by rw [HAL.out.1,HEX.out];simp [strL])⟩
end Go.Proofs.YtlcidkiplidamaaGreatDoor
