/- Part 27 of what the laws rest on: walks. Conditions: those that each theorem names. -/
import Derived.Test.YtdbniocnjhfhdaaGreatDoorB17
set_option linter.unusedSimpArgs false
set_option linter.unusedVariables false
set_option maxRecDepth 100000
set_option maxHeartbeats 2000000
namespace Go.Proofs.YtdbniocnjhfhdaaGreatDoor
open Go Go.RowKit Lib
def Ret (w:World) (v:Value) (e:Ending) (w':World):Prop:=e= .returned v∧Below w.heap.size w w'
theorem eqh (wo:List UInt8) (b:UInt8):dqM wo b=true↔(33≤b.toNat∧b.toNat≤126)∧ ∀k:Nat,wo[k]?≠some b:=by
 unfold dqM
 simp only [Bool.and_eq_true,decide_eq_true_eq,Bool.not_eq_true',decide_eq_false_iff_not]
 refine and_congr Iff.rfl ⟨fun h=> ?_,fun h hn=> ?_⟩
 ·have:=Lib.indexByte_ge wo b
  exact Lib.indexByte_none Om
 obtain⟨o,ho⟩:=Int.eq_ofNat_of_zero_le hn
 exact h o (Lib.indexByte_some ho).1
theorem kqx {wo:List UInt8} {s:ByteArray} (h1:1≤s.size) (h2:s.size≤255) (h: ∀(i:Nat) c,s.data.toList[i]?=some c→dqM wo c=true):aq9 wo s.data.toList=true:=by
 have hl:s.data.toList.length=s.size:=Array.length_toList
 unfold aq9
 simp only [Bool.and_eq_true,decide_eq_true_eq,hl,h2,and_true]
 refine⟨List.all_eq_true.2 fun c hc=> ?_, ?_⟩
 ·obtain⟨i,hi⟩:=List.mem_iff_getElem?.1 hc
  exact h i c hi
 cases hs:s.data.toList with
 |nil=>rw [hs] at hl;simp at hl;omega
 |cons a l=>rfl
theorem hqW (s wo:ByteArray) (w:World) (hm:s.size≤1000000) (hw:wo.size≤100):
  Calls Tryz.prog 62 #[.string s, .string wo] w (Ret w (.bool (aq9 wo.data.toList s.data.toList))):=by
 have hl:s.data.toList.length=s.size:=Array.length_toList
 by_cases h1:s.size<1
 ·have HX:=Hq (show aq9 wo.data.toList s.data.toList=false by
   unfold aq9
   rw [List.eq_nil_of_length_eq_zero (by omega:s.data.toList.length=0)]
   simp)
  have h1':(s.size:Int) <1:=by omega
  go_enter Tryz.func62,Tryz.ntmps62
  go_wp2_with fail
  go_ret
  exact⟨by rw [HX.out];rfl,Below.refl _ _⟩
 have h1': ¬(s.size:Int) <1:=by omega
 by_cases h2:255<s.size
 ·have HX:=Hq (show aq9 wo.data.toList s.data.toList=false by
   unfold aq9
   rw [hl,decide_eq_false Om,Bool.and_false])
  have h2':(255:Int) < (s.size:Int):=by omega
  go_enter Tryz.func62,Tryz.ntmps62
  go_wp2_with fail
  go_ret
  exact⟨by rw [HX.out];rfl,Below.refl _ _⟩
 have h2': ¬(255:Int) < (s.size:Int):=by omega
 go_enter Tryz.func62,Tryz.ntmps62
 go_wp2_with fail
 go_loopw [5] (fun iv wr=> ∃j:Nat,iv= .int .i64 j∧j≤s.size∧Hid (∀(i:Nat) c,i<j→s.data.toList[i]?=some c→dqM wo.data.toList c=true)∧Hid (Below w.heap.size w wr)) (fun i _=>s.size - (RowKit.intOf i).toNat)
 case atStart=>exact⟨0,rfl,by omega,Hq (fun i c hi=>absurd hi Om),Hq Rf9⟩
 case round=>
  obtain⟨wo',hwo⟩: ∃W,W=wr:=⟨_,rfl⟩
  subst hwo
  obtain⟨j,rfl,hj,HG,HB⟩:=hrel
  by_cases hlt:j<s.size
  ·obtain⟨b,hb⟩: ∃b,b=s[j]'hlt:=⟨_,rfl⟩
   have hbl:s.data.toList[j]?=some b:=by rw [aqU hlt,hb]
   have hlt':(j:Int) < (s.size:Int):=by omega
   have bad:dqM wo.data.toList b=false→aq9 wo.data.toList s.data.toList=false:=fun hx=>cqQ hbl hx
   by_cases h33:b.toNat<33
   ·have HX:=Hq (bad (by rw [←Bool.not_eq_true,eqh];omega))
    have h33':((s[j]'hlt).toNat:Int) <33:=by rw [←hb];omega
    clear bad hbl hb
    go_wp2_with fail
    go_ret
    exact⟨by rw [HX.out];rfl,HB.out⟩
   have h33': ¬((s[j]'hlt).toNat:Int) <33:=by rw [←hb];omega
   by_cases h126:126<b.toNat
   ·have HX:=Hq (bad (by rw [←Bool.not_eq_true,eqh];omega))
    have h126':(126:Int) < ((s[j]'hlt).toNat:Int):=by rw [←hb];omega
    clear bad hbl hb
    go_wp2_with fail
    go_ret
    exact⟨by rw [HX.out];rfl,HB.out⟩
   have h126': ¬(126:Int) < ((s[j]'hlt).toNat:Int):=by rw [←hb];omega
   have HBAD:=Hq bad
   have HBL:=Hq hbl
   have HBE:=Hq hb
   clear bad hbl hb
   go_wp2_with fail
   go_loopw [6] (fun kv wr=> ∃k:Nat,kv= .int .i64 k∧k≤wo.size∧Hid (∀i:Nat,i<k→wo.data.toList[i]?≠some b)∧Hid (Below w.heap.size w wr)) (fun k _=>wo.size - (RowKit.intOf k).toNat)
   case atStart=>exact⟨0,rfl,by omega,Hq (fun i hi=>absurd hi Om),HB⟩
   case round=>
    obtain⟨k,rfl,hk,HN,HC⟩:=hrel
    have HD:=Hq (fun m=>HC.out.trans (below_drewN (Below.refl w.heap.size wr) m))
    by_cases hkl:k<wo.size
    ·have hk':(k:Int) < (wo.size:Int):=by omega
     have hcl:wo.data.toList[k]?=some (wo[k]'hkl):=aqU hkl
     have hj0:(0:Int)≤(j:Int):=by omega
     have hk0:(0:Int)≤(k:Int):=by omega
     by_cases he:wo[k]'hkl=b
     ·have hq:(((s[j]'hlt).toNat:Int)==((wo[k]'hkl).toNat:Int))=true:=by rw [he,HBE.out];simp
      have HX:=Hq (HBAD.out (by rw [←Bool.not_eq_true,eqh];rintro⟨_,h⟩;exact h k (by rw [hcl,he])))
      clear he hcl
      go_wp2_with fail
      go_quiet (fail)
      go_wp2_with fail
      go_ret
      exact⟨by rw [HX.out];rfl,HD.out _⟩
     have hq:(((s[j]'hlt).toNat:Int)==((wo[k]'hkl).toNat:Int))=false:=by
      rw [beq_eq_false_iff_ne]
      intro e
      exact he (by rw [HBE.out];exact(UInt8.toNat_inj.1 Om).symm)
     have HN2:=Hq (show∀i:Nat,i<k+1→wo.data.toList[i]?≠some b from fun i hi e=>by
      rcases Nat.lt_or_ge i k with h|h
      ·exact HN.out i h e
      obtain rfl:i=k:=by omega
      rw [hcl] at e
      exact he (Option.some.inj e))
     clear he hcl
     go_wp2_with fail
     go_quiet (fail)
     go_wp2_with fail
     go_roundw
     case rel=>exact⟨k+1,by go_num,by omega,HN2,Hq (HD.out _)⟩
     case measure=>simp [RowKit.intOf];omega
    have hwl:wo.data.toList.length=wo.size:=Array.length_toList
    have HG2:=Hq (show∀(i:Nat) c,i<j+1→s.data.toList[i]?=some c→dqM wo.data.toList c=true from fun i c hi hc=>by
     rcases Nat.lt_or_ge i j with h|h
     ·exact HG.out i c h hc
     obtain rfl:i=j:=by omega
     rw [HBL.out] at hc
     cases hc
     refine(eqh _ _).2 ⟨⟨by omega,by omega⟩,fun q e=> ?_⟩
     have:=(List.getElem?_eq_some_iff.1 e).1
     exact HN.out q Om e)
    go_wp2_with fail
    go_roundw
    case rel=>exact⟨j+1,by go_num,by omega,HG2,HC⟩
    case measure=>simp [RowKit.intOf];omega
  have HX:=Hq (kqx (wo:=wo.data.toList) Om Om (fun i c hc=>HG.out i c (by have:=(List.getElem?_eq_some_iff.1 hc).1;omega) hc))
  go_wp2_with fail
  go_ret
  exact⟨by rw [HX.out];rfl,HB.out⟩
theorem lqZ (l:List UInt8) (lb:UInt8):eqm lb l=true↔(∀k:Nat,(lb::l)[k]?=some 47→(lb::l)[k+1]?≠some 47)∧(lb::l).getLast?≠some 47:=by
 induction l generalizing lb with
 |nil=>
  unfold eqm
  simp
 |cons c l ih=>
  rw [eqm,Bool.and_eq_true,ih]
  have hg:(lb::c::l).getLast?=(c::l).getLast?:=List.getLast?_cons_cons
  rw [hg]
  constructor
  ·rintro⟨h1,h2,h3⟩
   refine⟨fun k=> ?_,h3⟩
   cases k with
   |zero=>
    simp at h1⊢
    intro a b
    rcases h1 with h|h
    ·exact h b
    ·exact h a
   |succ k=>exact h2 k
  rintro⟨h1,h3⟩
  refine⟨?_,fun k=>h1 (k+1),h3⟩
  have:=h1 0
  simp at this⊢
  by_cases e:lb=47
  ·exact .inl (this e)
  exact .inr e
theorem q47 {b:UInt8} (h:b=47):((b.toNat:Int)==47)=true:=by rw [h];rfl
theorem n47 {b:UInt8} (h:b≠47):((b.toNat:Int)==47)=false:=by rw [beq_eq_false_iff_ne];intro e;exact h (UInt8.toNat_inj.1 (by rw [show b.toNat=47 by omega];rfl))
theorem eq5 (s:ByteArray) (w:World) (hm:s.size≤1000000):
  Calls Tryz.prog 34 #[.string s] w (Ret w (.bool (aq1 s.data.toList))):=by
 have HP:=Hq (hqW s ⟨#[46,59,91]⟩ w hm Dd9)
 have hl:s.data.toList.length=s.size:=Array.length_toList
 have hld:(⟨#[46,59,91]⟩:ByteArray).data.toList= [46,59,91]:=rfl
 rw [hld] at HP
 cases hlet:aq9 [46,59,91] s.data.toList with
 |false=>
  have HX:=Hq (show aq1 s.data.toList=false by unfold aq1;rw [hlet];rfl)
  rw [hlet] at HP
  go_enter Tryz.func34,Tryz.ntmps34
  go_wp2_with (go_at_call 62;refine HP.out.mono ?_;rintro e w1 ⟨rfl,hb⟩)
  go_ret
  exact⟨by rw [HX.out];rfl,hb⟩
 |true=>
  have h1:0<s.size∧s.size≤255:=by
   unfold aq9 at hlet
   simp only [Bool.and_eq_true,decide_eq_true_eq,hl] at hlet
   refine⟨?_,hlet.2⟩
   rcases Nat.eq_zero_or_pos s.size with h|h
   ·rw [List.eq_nil_of_length_eq_zero (by omega:s.data.toList.length=0)] at hlet
    simp at hlet
   exact h
  obtain⟨h0,h255⟩:=h1
  have HC:=Hq (show aq1 s.data.toList=true↔(∀k:Nat,(47::s.data.toList)[k]?=some 47→(47::s.data.toList)[k+1]?≠some 47)∧(47::s.data.toList).getLast?≠some 47 by
   rw [←lqZ]
   unfold aq1
   rw [hlet]
   rfl)
  have HF:=Hq (show∀k:Nat,(47::s.data.toList)[k]?=some 47→(47::s.data.toList)[k+1]?=some 47→aq1 s.data.toList=false from fun k a b=>by
   rw [←Bool.not_eq_true,HC.out]
   exact fun h=>h.1 k a b)
  rw [hlet] at HP
  obtain⟨m,hmm⟩: ∃m,s.size=m+1:=⟨s.size - 1,by omega⟩
  have hw1:IntKind.i64.wrap ((s.size:Int) - 1)=(m:Int):=by rw [IntWalk.i64_in _ Om];omega
  have hms:m<s.size:=by omega
  have hm0:(0:Int)≤(m:Int):=by omega
  have hm1:(m:Int) < (s.size:Int):=by omega
  have h0':(0:Int) < (s.size:Int):=by omega
  have a0:s.data.toList[0]?=some (s[0]'h0):=aqU h0
  have am:s.data.toList[m]?=some (s[m]'hms):=aqU hms
  have hgl:(47::s.data.toList).getLast?=some (s[m]'hms):=by
   rw [List.getLast?_eq_getElem?,List.length_cons,hl,hmm]
   exact am
  clear hlet
  by_cases e0:(s[0]'h0)=47
  ·have HX:=Hq (HF.out 0 rfl (a0.trans (by rw [e0])))
   have q0:=q47 e0
   clear e0 a0 am hgl
   go_enter Tryz.func34,Tryz.ntmps34
   go_wp2_with (go_at_call 62;refine HP.out.mono ?_;rintro e w1 ⟨rfl,hb⟩)
   go_ret
   exact⟨by rw [HX.out];rfl,hb⟩
  have q0:=n47 e0
  by_cases em:(s[m]'hms)=47
  ·have HX:=Hq (show aq1 s.data.toList=false by rw [←Bool.not_eq_true,HC.out];exact fun h=>h.2 (by rw [hgl,em]))
   have qm:=q47 em
   clear e0 a0 am hgl em
   go_enter Tryz.func34,Tryz.ntmps34
   go_wp2_with (go_at_call 62;refine HP.out.mono ?_;rintro e w1 ⟨rfl,hb⟩)
   go_ret
   exact⟨by rw [HX.out];rfl,hb⟩
  have qm:=n47 em
  have HEN:=Hq (show(∀i:Nat,0<i→i<s.size→s.data.toList[i - 1]?=some 47→s.data.toList[i]?≠some 47)→aq1 s.data.toList=true from fun h=>HC.out.2 ⟨fun k=>by
   cases k with
   |zero=>exact fun _ e=>e0 (Option.some.inj (a0.symm.trans e))
   |succ k=>exact fun a b=>h (k+1) Om (by have:=(List.getElem?_eq_some_iff.1 (show s.data.toList[k+1]?=some 47 from b)).1;omega) a b,by rw [hgl];exact fun e=>em (Option.some.inj e)⟩)
  clear e0 a0 am hgl em
  go_enter Tryz.func34,Tryz.ntmps34
  go_wp2_with (go_at_call 62;refine HP.out.mono ?_;rintro e w1 ⟨rfl,hb⟩)
  go_loopw [4] (fun iv wr=> ∃i:Nat,iv= .int .i64 (i+1:Nat)∧i<s.size∧Hid (∀q:Nat,0<q→q<i+1→s.data.toList[q - 1]?=some 47→s.data.toList[q]?≠some 47)∧Hid (Below w.heap.size w wr)) (fun i _=>s.size - (RowKit.intOf i).toNat)
  case atStart=>exact⟨0,rfl,by omega,Hq (fun q hq h=>absurd h Om),Hq hb⟩
  case round=>
   obtain⟨i,rfl,hi,HN,HB⟩:=hrel
   by_cases hlt:i+1<s.size
   ·have hlt':((i+1:Nat):Int) < (s.size:Int):=by omega
    have hi0:(0:Int)≤((i+1:Nat):Int):=by omega
    have hw2:IntKind.i64.wrap (((i+1:Nat):Int) - 1)=(i:Int):=by rw [IntWalk.i64_in _ Om];omega
    have hi1:(0:Int)≤(i:Int):=by omega
    have hi2:(i:Int) < (s.size:Int):=by omega
    have a1:s.data.toList[i+1]?=some (s[i+1]'hlt):=aqU hlt
    have a2:s.data.toList[i]?=some (s[i]' Om):=aqU Om
    have NXT: ¬(s.data.toList[i]?=some 47∧s.data.toList[i+1]?=some 47)→Hid (∀q:Nat,0<q→q<i+1+1→s.data.toList[q - 1]?=some 47→s.data.toList[q]?≠some 47):=fun hx=>Hq (fun q h1 h2 h3 h4=>by
     rcases Nat.lt_or_ge q (i+1) with h|h
     ·exact HN.out q h1 h h3 h4
     obtain rfl:q=i+1:=by omega
     exact hx ⟨h3,h4⟩)
    obtain⟨p,hp⟩: ∃p,i+1=p:=⟨_,rfl⟩
    rw [a1,a2] at NXT
    by_cases e1:(s[i+1]'hlt)=47
    ·have q1:=q47 e1
     by_cases e2:(s[i]' Om)=47
     ·have q2:=q47 e2
      have HX:=Hq (HF.out (i+1) (show s.data.toList[i]?=_ by rw [a2,e2]) (show s.data.toList[i+1]?=_ by rw [a1,e1]))
      clear a1 a2 e1 e2 NXT hp
      go_wp2_with fail
      go_ret
      exact⟨by rw [HX.out];rfl,HB.out⟩
     have q2:=n47 e2
     have HN2:=NXT (fun h=>e2 (Option.some.inj h.1))
     clear a1 a2 e1 e2 NXT hp
     go_wp2_with fail
     go_roundw
     case rel=>exact⟨i+1,by go_num,by omega,HN2,HB⟩
     case measure=>simp [RowKit.intOf];omega
    have q1:=n47 e1
    have HN2:=NXT (fun h=>e1 (Option.some.inj h.2))
    clear a1 a2 e1 NXT hp
    go_wp2_with fail
    go_roundw
    case rel=>exact⟨i+1,by go_num,by omega,HN2,HB⟩
    case measure=>simp [RowKit.intOf];omega
   have HX:=Hq (HEN.out (fun q h1 h2=>HN.out q h1 Om))
   have hlt': ¬((i+1:Nat):Int) < (s.size:Int):=by omega
   go_wp2_with fail
   go_ret
   exact⟨by rw [HX.out];rfl,HB.out⟩
theorem eqv (s:ByteArray) (w:World) (hm:s.size≤1000000):
  Calls Tryz.prog 111 #[.string s] w (Ret w (.bool (bqh s.data.toList))):=by
 have HP:=Hq (hqW s ⟨#[46,59,91,47,60,62]⟩ w hm Dd9)
 go_enter Tryz.func111,Tryz.ntmps111
 go_wp2_with (go_at_call 62;refine HP.out.mono ?_;rintro e w1 ⟨rfl,hb⟩)
 go_ret
 exact⟨rfl,hb⟩
theorem fq2 (s:ByteArray) (w:World) (hm:s.size≤1000000):
  Calls Tryz.prog 107 #[.string s] w (Ret w (.bool (aq5 s.data.toList))):=by
 have HP:=eqv s w hm
 obtain⟨b1,h1⟩: ∃b,b=(s.data.toList==dqN):=⟨_,rfl⟩
 obtain⟨b2,h2⟩: ∃b,b=(s.data.toList==bqG):=⟨_,rfl⟩
 obtain⟨b3,h3⟩: ∃b,b=bqh s.data.toList:=⟨_,rfl⟩
 have e1:(s.toList== [60,105,110,105,116,62])=b1:=by rw [ByteArray.toList_eq,h1];rfl
 have e2:(s.toList== [60,99,108,105,110,105,116,62])=b2:=by rw [ByteArray.toList_eq,h2];rfl
 have HE:=Hq (show aq5 s.data.toList=(b1||b2||b3) by rw [h1,h2,h3];rfl)
 rw [←h3] at HP
 replace HP:=Hq HP
 clear h1 h2 h3
 rw [HE.out]
 go_enter Tryz.func107,Tryz.ntmps107
 cases b1<;>cases b2<;>cases b3
 all_goals
  go_wp2_with (go_at_call 111;refine HP.out.mono ?_;rintro e w1 ⟨rfl,hb⟩)
  go_ret
  exact⟨rfl,hb⟩
theorem hqX {l:List UInt8} (h1:l≠ [73]) (h:l.length≤2∨255<l.length∨l.headD 0≠76∨l.getLastD 0≠59):aqD l=false:=by
 unfold aqD
 rw [beq_eq_false_iff_ne.2 h1,Bool.false_or]
 rcases h with h|h|h|h
 ·rw [decide_eq_false Om];rfl
 ·rw [decide_eq_false (show¬l.length≤255 by omega)];simp
 ·rw [beq_eq_false_iff_ne.2 h];simp
 rw [beq_eq_false_iff_ne.2 h];simp
theorem dqm (s:ByteArray) (w:World) (hm:s.size≤1000000):
  Calls Tryz.prog 108 #[.string s] w (Ret w (.bool (aqD s.data.toList))):=by
 have hl:s.data.toList.length=s.size:=Array.length_toList
 by_cases hI:s.data.toList= [73]
 ·have e1:(s.toList== [73])=true:=by rw [ByteArray.toList_eq,hI];rfl
  have HX:=Hq (show aqD s.data.toList=true by rw [hI];rfl)
  clear hI
  go_enter Tryz.func108,Tryz.ntmps108
  go_wp2_with fail
  go_ret
  exact⟨by rw [HX.out];rfl,Below.refl _ _⟩
 have e1:(s.toList== [73])=false:=by rw [ByteArray.toList_eq];exact beq_eq_false_iff_ne.2 hI
 by_cases hn:2<s.size
 ·have HF:=hqF s hn
  have HC:=eq5 (s.extract 1 (s.size - 1)) w (by rw [ByteArray.size_extract];omega)
  obtain⟨m,hmm⟩: ∃m,s.size - 1=m:=⟨_,rfl⟩
  have hms:m<s.size:=by omega
  have h0s:0<s.size:=by omega
  have n3: ¬(s.size:Int) <3:=by omega
  have hw1:IntKind.i64.wrap ((s.size:Int) - 1)=(m:Int):=by rw [IntWalk.i64_in _ Om];omega
  have hm0:(0:Int)≤(m:Int):=by omega
  have hm1:(m:Int) < (s.size:Int):=by omega
  have hm2:(1:Int)≤(m:Int):=by omega
  have hm3:(m:Int)≤(s.size:Int):=by omega
  have h0':(0:Int) < (s.size:Int):=by omega
  simp only [hmm] at HF HC
  obtain⟨x,hx⟩: ∃x,s.extract 1 m=x:=⟨_,rfl⟩
  rw [hx] at HF HC
  obtain⟨b0,hb0⟩: ∃b:Bool,(((s[0]'h0s).toNat:Int) !=76)=b:=⟨_,rfl⟩
  obtain⟨b1,hb1⟩: ∃b:Bool,(((s[m]'hms).toNat:Int) !=59)=b:=⟨_,rfl⟩
  obtain⟨b2,hb2⟩: ∃b:Bool,decide ((s.size:Int) >255)=b:=⟨_,rfl⟩
  obtain⟨b3,hb3⟩: ∃b:Bool,aq1 x.data.toList=b:=⟨_,rfl⟩
  have k0:((s[0]'h0s)==76)= !b0:=by
   rw [←hb0,Bool.eq_iff_iff]
   simp [←UInt8.toNat_inj]
   omega
  have k1:((s[m]'hms)==59)= !b1:=by
   rw [←hb1,Bool.eq_iff_iff]
   simp [←UInt8.toNat_inj]
   omega
  have k2:decide (s.size≤255)= !b2:=by
   rw [←hb2,Bool.eq_iff_iff]
   simp
   omega
  rw [k0,k1,k2,hb3] at HF
  rw [hb3] at HC
  replace HF:=Hq HF
  replace HC:=Hq HC
  clear k0 k1 k2 hb3 hI hmm hl
  rw [HF.out]
  go_enter Tryz.func108,Tryz.ntmps108
  cases b2<;>cases b0<;>cases b1<;>cases b3
  all_goals
   go_wp2_with (go_at_call 34;refine HC.out.mono ?_;rintro e w1 ⟨rfl,hb⟩)
   go_ret
   first|exact⟨rfl,hb⟩ |exact⟨rfl,Below.refl _ _⟩
 have HX:=Hq (hqX hI (.inl Om))
 have n3:(s.size:Int) <3:=by omega
 clear hI hl
 go_enter Tryz.func108,Tryz.ntmps108
 go_wp2_with fail
 go_ret
 exact⟨by rw [HX.out];rfl,Below.refl _ _⟩
def iqk (s:ByteArray):Nat:=if aqD (s.extract 0 (aqA s)).data.toList=true then aqA s else 0
theorem bqa (s:ByteArray) (i j:Nat):(s.extract i j).data.toList=(s.data.toList.drop i).take (j - i):=by rw [dq1]
theorem oqU {l:List UInt8} {c:UInt8} {i:Nat} (hi:l[i]?=some c) (hn: ∀q:Nat,q<i→l[q]?≠some c):Lib.indexByte l c=(i:Int):=by
 have hg:=Lib.indexByte_ge l c
 by_cases h:Lib.indexByte l c= -1
 ·exact absurd hi (Lib.indexByte_none h i)
 obtain⟨o,ho⟩:=Int.eq_ofNat_of_zero_le (show 0≤Lib.indexByte l c by omega)
 have hs:=Lib.indexByte_some ho
 rcases Nat.lt_trichotomy o i with h|h|h
 ·exact absurd hs.1 (hn o h)
 ·rw [ho,h]
 exact absurd hi (hs.2 i h)
theorem oqV {l:List UInt8} {c:UInt8} (hn: ∀q:Nat,l[q]?≠some c):Lib.indexByte l c= -1:=by
 have hg:=Lib.indexByte_ge l c
 by_cases h:Lib.indexByte l c= -1
 ·exact h
 obtain⟨o,ho⟩:=Int.eq_ofNat_of_zero_le (show 0≤Lib.indexByte l c by omega)
 exact absurd (Lib.indexByte_some ho).1 (hn o)
theorem eqw {c:UInt8} {l:List UInt8} (h1:c≠73) (h2:c≠76):aqD (c::l)=false:=by
 unfold aqD
 have e1:((c::l)== [73])=false:=by rw [beq_eq_false_iff_ne];intro e;injection e with e;exact h1 e
 have e2:((c::l).headD 0==76)=false:=by rw [beq_eq_false_iff_ne];exact h2
 rw [e1,e2]
 simp
theorem eqi {s:ByteArray} (h0:0<s.size):s.data.toList=(s[0]'h0)::s.data.toList.drop 1:=by
 have hl:s.data.toList.length=s.size:=Array.length_toList
 have h:=aqU (s:=s) (j:=0) h0
 conv=>lhs;rw [←List.drop_zero (l:=s.data.toList),List.drop_eq_getElem_cons Om]
 rw [List.getElem?_eq_getElem Om] at h
 rw [Option.some.inj h]
theorem dqE {s:ByteArray} (h0:0<s.size):s.data.toList.headD 0=s[0]'h0:=by rw [eqi h0];rfl
theorem one_I {s:ByteArray} (h0:0<s.size) (h:(s[0]'h0)=73):iqk s=1:=by
 have hp:aqA s=1:=by
  unfold aqA
  rw [dqE h0,h,if_neg Dd9]
 have he:(s.extract 0 1).data.toList= [73]:=by
  rw [bqa,eqi h0,h]
  rfl
 unfold iqk
 rw [hp,he]
 rfl
theorem nqm {s:ByteArray} {i:Nat} (h0:0<s.size) (h:(s[0]'h0)≠73) (hi:s.data.toList[i]?=some 59) (hn: ∀q:Nat,q<i→s.data.toList[q]?≠some 59):iqk s=if aqD (s.extract 0 (i+1)).data.toList=true then i+1 else 0:=by
 by_cases h76:(s[0]'h0)=76
 ·have hx:Lib.indexByte s.data.toList 59=(i:Int):=oqU hi hn
  have hp:aqA s=i+1:=by
   unfold aqA
   rw [dqE h0,h76,if_pos rfl,hx,if_neg Om]
   omega
  unfold iqk
  rw [hp]
 have hp:aqA s=1:=by
  unfold aqA
  rw [dqE h0,if_neg h76]
 have e1:aqD (s.extract 0 1).data.toList=false:=by
  rw [bqa,eqi h0]
  exact eqw h h76
 have e2:aqD (s.extract 0 (i+1)).data.toList=false:=by
  rw [bqa,eqi h0]
  exact eqw h h76
 unfold iqk
 rw [hp,e1,e2]
 rfl
theorem nqn {s:ByteArray} (h0:0<s.size) (h:(s[0]'h0)≠73) (hn: ∀q:Nat,q<s.size→s.data.toList[q]?≠some 59):iqk s=0:=by
 have hl:s.data.toList.length=s.size:=Array.length_toList
 by_cases h76:(s[0]'h0)=76
 ·have hx:Lib.indexByte s.data.toList 59= -1:=oqV (fun q=>by
   rcases Nat.lt_or_ge q s.size with hq|hq
   ·exact hn q hq
   rw [List.getElem?_eq_none Om];simp)
  have hp:aqA s=s.size:=by
   unfold aqA
   rw [dqE h0,h76,if_pos rfl,hx,if_pos rfl]
  have e0:(s.extract 0 s.size).data.toList=s.data.toList:=by
   rw [bqa,List.drop_zero,List.take_of_length_le Om]
  have e1:aqD s.data.toList=false:=by
   refine hqX (fun e=> ?_) (.inr (.inr (.inr fun e=> ?_)))
   ·rw [eqi h0] at e
    injection e with e
    exact h e
   rw [List.getLastD_eq_getLast?,List.getLast?_eq_getElem?] at e
   have:=hn (s.size - 1) Om
   rw [hl] at e
   cases hq:s.data.toList[s.size - 1]? with
   |none=>rw [List.getElem?_eq_getElem Om] at hq;simp at hq
   |some c=>rw [hq] at e this;simp at e;exact this (by rw [e])
  unfold iqk
  rw [hp,e0,e1]
  rfl
 have hp:aqA s=1:=by
  unfold aqA
  rw [dqE h0,if_neg h76]
 have e1:aqD (s.extract 0 1).data.toList=false:=by
  rw [bqa,eqi h0]
  exact eqw h h76
 unfold iqk
 rw [hp,e1]
 rfl
theorem nqo (s:ByteArray) (w:World) (h0:0<s.size) (hm:s.size≤1000000):
  Calls Tryz.prog 135 #[.string s] w (Ret w (.int .i64 (iqk s:Nat))):=by
 have h0':(0:Int) < (s.size:Int):=by omega
 by_cases hI:(s[0]'h0)=73
 ·have HX:=Hq (one_I h0 hI)
  have q0:(((s[0]'h0).toNat:Int)==73)=true:=by rw [hI];rfl
  clear hI
  go_enter Tryz.func135,Tryz.ntmps135
  go_wp2_with fail
  go_ret
  exact⟨by rw [HX.out];rfl,Below.refl _ _⟩
 have q0:(((s[0]'h0).toNat:Int)==73)=false:=by rw [beq_eq_false_iff_ne];intro e;exact hI (UInt8.toNat_inj.1 (by rw [show(s[0]'h0).toNat=73 by omega];rfl))
 have HS:=Hq (fun(i:Nat)=>nqm (i:=i) h0 hI)
 have HN:=Hq (nqn h0 hI)
 clear hI
 go_enter Tryz.func135,Tryz.ntmps135
 go_wp2_with fail
 go_loopw [3] (fun iv wr=> ∃i:Nat,iv= .int .i64 i∧i≤s.size∧Hid (∀q:Nat,q<i→s.data.toList[q]?≠some 59)∧Hid (Below w.heap.size w wr)) (fun i _=>s.size - (RowKit.intOf i).toNat)
 case atStart=>exact⟨0,rfl,by omega,Hq (fun q h=>absurd h Om),Hq Rf9⟩
 case round=>
  obtain⟨i,rfl,hi,HNI,HB⟩:=hrel
  by_cases hlt:i<s.size
  ·have hlt':(i:Int) < (s.size:Int):=by omega
   have hi0:(0:Int)≤(i:Int):=by omega
   have a1:s.data.toList[i]?=some (s[i]'hlt):=aqU hlt
   by_cases he:(s[i]'hlt)=59
   ·have q1:(((s[i]'hlt).toNat:Int)==59)=true:=by rw [he];rfl
    have HX:=Hq (HS.out i (a1.trans (by rw [he])) HNI.out)
    have hi2:((i:Int)+1)≤(s.size:Int):=by omega
    have hi3:(0:Int)≤((i:Int)+1):=by omega
    have hw1:IntKind.i64.wrap ((i:Int)+1)=(i:Int)+1:=IntWalk.i64_in _ Om
    obtain⟨x,hx⟩: ∃x,s.extract 0 (i+1)=x:=⟨_,rfl⟩
    rw [hx] at HX
    have HF:=fun W=>dqm x W (by rw [←hx,ByteArray.size_extract];omega)
    cases hb:aqD x.data.toList
    ·rw [hb] at HX HF
     replace HF:=Hq HF
     have HXX:=Hq (show iqk s=0 by rw [HX.out];rfl)
     clear HX hb
     clear a1 he
     go_wp2_with (go_at_call 108;first|rw [hx] |skip;refine(HF.out _).mono ?_;rintro e w1 ⟨rfl,hb⟩)
     go_ret
     exact⟨by rw [HXX.out];rfl,HB.out.trans (hb.mono (by have:=HB.out.size;omega))⟩
    rw [hb] at HX HF
    replace HF:=Hq HF
    have HXX:=Hq (show iqk s=i+1 by rw [HX.out];rfl)
    clear HX hb
    clear a1 he
    go_wp2_with (go_at_call 108;first|rw [hx] |skip;refine(HF.out _).mono ?_;rintro e w1 ⟨rfl,hb⟩)
    go_ret
    exact⟨by rw [HXX.out];rfl,HB.out.trans (hb.mono (by have:=HB.out.size;omega))⟩
   have q1:(((s[i]'hlt).toNat:Int)==59)=false:=by rw [beq_eq_false_iff_ne];intro e;exact he (UInt8.toNat_inj.1 (by rw [show(s[i]'hlt).toNat=59 by omega];rfl))
   have HN2:=Hq (show∀q:Nat,q<i+1→s.data.toList[q]?≠some 59 from fun q h=>by
    rcases Nat.lt_or_ge q i with hq|hq
    ·exact HNI.out q hq
    obtain rfl:q=i:=by omega
    rw [a1]
    exact fun e=>he (Option.some.inj e))
   clear a1 he
   go_wp2_with fail
   go_roundw
   case rel=>exact⟨i+1,by go_num,by omega,HN2,HB⟩
   case measure=>simp [RowKit.intOf];omega
  have HX:=Hq (HN.out (fun q h=>HNI.out q Om))
  have hlt': ¬(i:Int) < (s.size:Int):=by omega
  go_wp2_with fail
  go_ret
  exact⟨by rw [HX.out];rfl,HB.out⟩
theorem jqO: ∀(f:Nat) (r:ByteArray) (args:List UInt8) (e:Nat),e≤(cqG f r args e).2.2
 |0,r,args,e=>Nat.le_refl _
 |f+1,r,args,e=>by
  rw [cqG]
  split
  ·exact Nat.le_refl _
  split
  ·exact Nat.le_refl _
  split
  ·exact Nat.le_refl _
  exact Nat.le_trans (Nat.le_add_right _ _) (jqO f _ _ _)
def cqT (s:ByteArray) (V:Bool×List UInt8×Nat):ByteArray×ByteArray×Bool:=
 if V.1=false∨s.size≤V.2.2∨s.data.toList.getD V.2.2 0≠41 then bqn
 else if(s.extract (V.2.2+1) s.size).data.toList≠ [86]∧aqD (s.extract (V.2.2+1) s.size).data.toList=false then bqn
 else(⟨V.2.1.toArray⟩,(s.extract (V.2.2+1) s.size).extract 0 1,true)
theorem lq0 {s:ByteArray} {i:Nat} (h:i<s.size):s.data.toList.getD i 0=s[i]'h:=by
 rw [List.getD_eq_getElem?_getD,aqU h]
 rfl
theorem nqp {s:ByteArray} (h3:3≤s.size) (h255:s.size≤255) (h40:(s[0]' Om)=40):aqB s=cqT s (cqG 256 (s.extract 1 s.size) [] 1):=by
 unfold aqB cqT
 rw [dqE Om,h40,if_neg (by rintro(h|h|h) <;>first|omega|exact h rfl)]
theorem hqY {s:ByteArray} {V:Bool×List UInt8×Nat} (h:V.1=false∨s.size≤V.2.2∨s.data.toList.getD V.2.2 0≠41):cqT s V=bqn:=by
 unfold cqT
 rw [if_pos h]
theorem kqy:aqD []=false:=rfl
theorem eqx {s:ByteArray} {V:Bool×List UInt8×Nat} (h:s.size≤V.2.2+1):cqT s V=bqn:=by
 unfold cqT
 split
 ·rfl
 have e:(s.extract (V.2.2+1) s.size).data.toList= []:=by
  rw [bqa,List.drop_of_length_le (by rw [show s.data.toList.length=s.size from Array.length_toList];omega),List.take_nil]
 rw [e,if_pos ⟨by simp,kqy⟩]
theorem fq3 {s:ByteArray} (h: ¬s.size≤255∨s.size<3∨s.data.toList.headD 0≠40):aqB s=bqn:=by
 unfold aqB
 split
 ·rfl
 rename_i hn
 have h2:s.size<3:=by
  rcases h with h|h|h
  ·exact absurd (.inr (.inr Om)) hn
  ·exact h
  exact absurd (.inr (.inl h)) hn
 have hg:=jqO 256 (s.extract 1 s.size) [] 1
 obtain⟨V,hV⟩: ∃V,cqG 256 (s.extract 1 s.size) [] 1=V:=⟨_,rfl⟩
 rw [hV] at hg⊢
 show cqT s V=bqn
 exact eqx Om
theorem kqz {s:ByteArray} {args:List UInt8} {i:Nat} (hi:i<s.size) (h41:(s[i]'hi)=41) (b:Bool) (hb:((s.extract (i+1) s.size).data.toList== [86] ||aqD (s.extract (i+1) s.size).data.toList)=b):
  cqT s (true,args,i)=if b=true then(⟨args.toArray⟩,(s.extract (i+1) s.size).extract 0 1,true) else bqn:=by
 unfold cqT
 rw [if_neg (by
  rintro(h|h|h)
  ·cases h
  ·exact absurd h (by show¬s.size≤i;omega)
  exact h (by show s.data.toList.getD i 0=41;rw [lq0 hi,h41]))]
 cases b
 ·simp only [Bool.or_eq_false_iff,beq_eq_false_iff_ne] at hb
  rw [if_pos ⟨hb.1,hb.2⟩]
  rfl
 rw [if_neg]
 ·rfl
 rintro⟨h1,h2⟩
 rw [h2,Bool.or_false,beq_iff_eq] at hb
 exact h1 hb
theorem gqG {f:Nat} {s:ByteArray} {args:List UInt8} {i e:Nat} (h:s.size≤i∨s.data.toList.getD i 0=41):cqG f (s.extract i s.size) args e=(true,args,e):=by
 cases f with
 |zero=>rfl
 |succ f=>
  rw [cqG]
  by_cases hz:s.size≤i
  ·rw [if_pos (by rw [ByteArray.size_extract];omega)]
  rw [if_neg (by rw [ByteArray.size_extract];omega),if_pos]
  have h41:=h.resolve_left hz
  rw [bqa,List.headD_eq_head?_getD,List.head?_take,List.head?_drop,if_neg Om, ←List.getD_eq_getElem?_getD]
  exact h41
theorem jqP {s:ByteArray} {i:Nat} (h:i<s.size):(s.extract i s.size).data.toList.headD 0=s[i]'h:=by
 rw [bqa,List.headD_eq_head?_getD,List.head?_take,List.head?_drop,if_neg Om,aqU h]
 rfl
theorem hqZ {f:Nat} {s:ByteArray} {args:List UInt8} {i e:Nat} (h:i<s.size) (h41:(s[i]'h)≠41) (hb:iqk (s.extract i s.size)=0∨args.length=16):cqG (f+1) (s.extract i s.size) args e=(false,args,e):=by
 have hp:=(dq9 (s.extract i s.size) (by rw [ByteArray.size_extract];omega)).1
 rw [cqG,if_neg (by rw [ByteArray.size_extract];omega),jqP h,if_neg h41,if_pos]
 refine hb.imp (fun h0=> ?_) id
 unfold iqk at h0
 split at h0
 ·omega
 rename_i hf
 exact Bool.eq_false_iff.2 hf
theorem oqr (s:ByteArray) (i n:Nat) (h:i+n≤s.size):(s.extract i s.size).extract n (s.size - i)=s.extract (i+n) s.size:=by
 apply ByteArray.ext
 apply Array.toList_inj.1
 rw [bqa,bqa,bqa,List.drop_take,List.drop_drop,List.take_take]
 congr 1
 omega
theorem kqA {f:Nat} {s:ByteArray} {args:List UInt8} {i e n:Nat} (h:i<s.size) (h41:(s[i]'h)≠41) (hn:iqk (s.extract i s.size)=n) (h0:n≠0) (ha:args.length≠16):cqG (f+1) (s.extract i s.size) args e=cqG f (s.extract (i+n) s.size) (args++ [s[i]'h]) (e+n)∧i+n≤s.size:=by
 have hp:=(dq9 (s.extract i s.size) (by rw [ByteArray.size_extract];omega)).2
 unfold iqk at hn
 split at hn
 ·rename_i hf
  rw [hn] at hp
  rw [ByteArray.size_extract] at hp
  have hin:i+n≤s.size:=by omega
  refine⟨?_,hin⟩
  have hx:(s.extract i s.size).size=s.size - i:=by rw [ByteArray.size_extract];omega
  have hz: ¬(s.extract i s.size).size=0:=by omega
  have hh:=jqP h
  have he:=oqr s i n hin
  have hno: ¬(aqD ((s.extract i s.size).extract 0 (aqA (s.extract i s.size))).data.toList=false∨args.length=16):=by
   rw [hf]
   rintro(h|h)
   ·cases h
   exact ha h
  rw [cqG,if_neg hz,hh,if_neg h41,if_neg hno,hn,hx,he]
 omega
theorem bq9 {P:Program} {fn:Func} {tmps:Array Value} {a b c:Tmp} {x y z:Value} (hr:fn.results= #[.tmp a, .tmp b, .tmp c]) (ha:tmps.getD a undef=x) (hb:tmps.getD b undef=y) (hc:tmps.getD c undef=z) (w:World):(results fn tmps).run P w= .ok (.tuple #[x,y,z]) w:=by
 unfold results
 rw [hr]
 rw [Array.getD_eq_getD_getElem?] at ha hb hc
 simp [ha,hb,hc,Result.andThen]
theorem eq6 (s:ByteArray) (w:World) (hm:s.size≤1000000):
  Calls Tryz.prog 109 #[.string s] w (Ret w (.tuple #[.string (aqB s).1, .string (aqB s).2.1, .bool (aqB s).2.2])):=by
 by_cases h1:255<s.size
 ·have HV:=Hq (fq3 (s:=s) (.inl Om))
  have h1':(255:Int) < (s.size:Int):=by omega
  rw [HV.out]
  go_enter Tryz.func109,Tryz.ntmps109
  go_wp2_with fail
  refine bodyPost_ret (bq9 rfl rfl rfl rfl _) rfl ⟨rfl,Below.refl _ _⟩
 have h1': ¬(255:Int) < (s.size:Int):=by omega
 by_cases h2:s.size<3
 ·have HV:=Hq (fq3 (s:=s) (.inr (.inl h2)))
  have h2':(s.size:Int) <3:=by omega
  rw [HV.out]
  go_enter Tryz.func109,Tryz.ntmps109
  go_wp2_with fail
  refine bodyPost_ret (bq9 rfl rfl rfl rfl _) rfl ⟨rfl,Below.refl _ _⟩
 have h2': ¬(s.size:Int) <3:=by omega
 have h0:0<s.size:=by omega
 have h0':(0:Int) < (s.size:Int):=by omega
 by_cases h40:(s[0]'h0)=40
 case neg=>
  have HV:=Hq (fq3 (s:=s) (.inr (.inr (by rw [dqE h0];exact h40))))
  have q0:(((s[0]'h0).toNat:Int)==40)=false:=by rw [beq_eq_false_iff_ne];intro e;exact h40 (UInt8.toNat_inj.1 (by rw [show(s[0]'h0).toNat=40 by omega];rfl))
  rw [HV.out]
  clear h40
  go_enter Tryz.func109,Tryz.ntmps109
  go_wp2_with fail
  refine bodyPost_ret (bq9 rfl rfl rfl rfl _) rfl ⟨rfl,Below.refl _ _⟩
 have q0:(((s[0]'h0).toNat:Int)==40)=true:=by rw [h40];rfl
 obtain⟨V,hV⟩: ∃V,aqB s=V:=⟨_,rfl⟩
 have HV:=Hq (show cqT s (cqG 256 (s.extract 1 s.size) [] 1)=V by rw [←hV];exact(nqp Om Om h40).symm)
 rw [hV]
 clear hV h40
 go_enter Tryz.func109,Tryz.ntmps109
 go_wp2_with fail
 go_loopw [5,6] (fun av iv wr=> ∃(f i:Nat) (args:List UInt8),av= .string ⟨args.toArray⟩∧iv= .int .i64 i∧1≤i∧i≤s.size∧s.size<f+i∧args.length≤16∧Hid (cqT s (cqG f (s.extract i s.size) args i)=V)∧Hid (Below w.heap.size w wr)) (fun _ i _=>s.size - (RowKit.intOf i).toNat)
 case atStart=>exact⟨256,1, [],rfl,rfl,by omega,by omega,by omega,by simp,HV,Hq Rf9⟩
 case round=>
  obtain⟨f,i,args,rfl,rfl,hi1,hi,hf,ha,HG,HB⟩:=hrel
  obtain⟨f,rfl⟩: ∃f',f=f'+1:=⟨f - 1,by omega⟩
  have hi0:(0:Int)≤(i:Int):=by omega
  have hwe:IntKind.i64.wrap ((s.size:Int) - 1)=(s.size:Int) - 1:=IntWalk.i64_in _ Om
  by_cases hlt:i<s.size
  ·have hlt':(i:Int) < (s.size:Int):=by omega
   by_cases h41:(s[i]'hlt)=41
   ·have q1:(((s[i]'hlt).toNat:Int)==41)=true:=by rw [h41];rfl
    have HG2:=Hq (show cqT s (true,args,i)=V by rw [←HG.out,gqG (.inr (by rw [lq0 hlt,h41]))])
    by_cases hla:s.size≤i+1
    ·have HX:=Hq (HG2.out.symm.trans (eqx (V:=(true,args,i)) hla))
     have hge:(s.size:Int) - 1≤(i:Int):=by omega
     clear h41
     go_wp2_with fail
     refine bodyPost_ret (bq9 rfl rfl rfl rfl _) rfl ?_
     exact⟨by rw [HX.out];rfl,HB.out⟩
    have hge: ¬(s.size:Int) - 1≤(i:Int):=by omega
    have hw1:IntKind.i64.wrap ((i:Int)+1)=((i+1:Nat):Int):=by rw [IntWalk.i64_in _ Om];omega
    have hs1:(0:Int)≤((i+1:Nat):Int):=by omega
    have hs2:((i+1:Nat):Int)≤(s.size:Int):=by omega
    have HR:=fun b=>kqz (args:=args) hlt h41 b
    have hxs:(s.extract (i+1) s.size).size=s.size - (i+1):=by rw [ByteArray.size_extract];omega
    obtain⟨x,hx⟩: ∃x,s.extract (i+1) s.size=x:=⟨_,rfl⟩
    rw [hx] at HR hxs
    have hx1:(1:Int)≤(x.size:Int):=by omega
    have hx0:(0:Int)≤(1:Int):=by omega
    have HF:=fun W=>dqm x W Om
    obtain⟨b1,hb1⟩: ∃b,(x.data.toList== [86])=b:=⟨_,rfl⟩
    obtain⟨b2,hb2⟩: ∃b,aqD x.data.toList=b:=⟨_,rfl⟩
    have hq1:(x.toList== [86])=b1:=by rw [ByteArray.toList_eq];exact hb1
    have HX:=Hq (HG2.out.symm.trans (HR _ rfl))
    rw [hb1,hb2] at HX
    rw [hb2] at HF
    replace HF:=Hq HF
    clear HR hb1 hb2 h41 HG2 HG
    cases b1<;>cases b2
    all_goals
     go_wp2_with (go_at_call 108;(first|rw [hx] |skip);refine(HF.out _).mono ?_;rintro e w1 ⟨rfl,hb⟩;have HB1:=Hq (HB.out.trans (hb.mono HB.out.size));clear hb)
     (try go_region)
     (try go_wp2_with fail)
     refine bodyPost_ret (bq9 rfl rfl rfl rfl _) rfl ?_
     first|exact⟨by rw [HX.out];rfl,HB1.out⟩ |exact⟨by rw [HX.out];rfl,below_drewN HB1.out 1⟩
   have q1:(((s[i]'hlt).toNat:Int)==41)=false:=by rw [beq_eq_false_iff_ne];intro e;exact h41 (UInt8.toNat_inj.1 (by rw [show(s[i]'hlt).toNat=41 by omega];rfl))
   have HN:=fun W=>nqo (s.extract i s.size) W (by rw [ByteArray.size_extract];omega) (by rw [ByteArray.size_extract];omega)
   obtain⟨n,hn⟩: ∃n,iqk (s.extract i s.size)=n:=⟨_,rfl⟩
   rw [hn] at HN
   have hi2:(i:Int)≤(s.size:Int):=by omega
   obtain⟨x,hx⟩: ∃x,s.extract i s.size=x:=⟨_,rfl⟩
   have hsz:(⟨args.toArray⟩:ByteArray).size=args.length:=by show args.toArray.size=_;simp
   by_cases h0n:n=0
   ·have HX:=Hq (HG.out.symm.trans ((congrArg (cqT s) (hqZ (f:=f) (args:=args) (e:=i) hlt h41 (.inl (hn.trans h0n)))).trans (hqY (.inl rfl))))
    subst h0n
    rw [hx] at HN
    replace HN:=Hq HN
    clear hn h41
    go_wp2_with (go_at_call 135;(first|rw [hx] |skip);refine(HN.out _).mono ?_;rintro e w1 ⟨rfl,hb⟩;have HB1:=Hq (HB.out.trans (hb.mono HB.out.size));clear hb)
    refine bodyPost_ret (bq9 rfl rfl rfl rfl _) rfl ?_
    exact⟨by rw [HX.out];rfl,HB1.out⟩
   have hnq:((n:Int)==0)=false:=by rw [beq_eq_false_iff_ne];omega
   by_cases h16:args.length=16
   ·have HX:=Hq (HG.out.symm.trans ((congrArg (cqT s) (hqZ (f:=f) (args:=args) (e:=i) hlt h41 (.inr h16))).trans (hqY (.inl rfl))))
    have h16':(((⟨args.toArray⟩:ByteArray).size:Int)==16)=true:=by rw [hsz,h16];rfl
    rw [hx] at HN
    replace HN:=Hq HN
    clear hn h41 hsz
    go_wp2_with (go_at_call 135;(first|rw [hx] |skip);refine(HN.out _).mono ?_;rintro e w1 ⟨rfl,hb⟩;have HB1:=Hq (HB.out.trans (hb.mono HB.out.size));clear hb)
    refine bodyPost_ret (bq9 rfl rfl rfl rfl _) rfl ?_
    exact⟨by rw [HX.out];rfl,HB1.out⟩
   have h16':(((⟨args.toArray⟩:ByteArray).size:Int)==16)=false:=by rw [hsz,beq_eq_false_iff_ne];omega
   have hM:=kqA (f:=f) (args:=args) (e:=i) hlt h41 hn h0n h16
   have hin:=hM.2
   have HX:=Hq ((congrArg (cqT s) hM.1).symm.trans HG.out)
   have hw1:IntKind.i64.wrap ((i:Int)+1)=((i+1:Nat):Int):=by rw [IntWalk.i64_in _ Om];omega
   have hs1:(0:Int)≤((i+1:Nat):Int):=by omega
   have hs2:((i+1:Nat):Int)≤(s.size:Int):=by omega
   have hs3:(i:Int)≤((i+1:Nat):Int):=by omega
   have HE:=Hq (show(⟨args.toArray⟩:ByteArray)++s.extract i (i+1)=⟨(args++ [s[i]'hlt]).toArray⟩ by
    apply ByteArray.ext
    apply Array.toList_inj.1
    rw [ByteArray.data_append,Array.toList_append,bqa,show i+1 - i=1 by omega,List.drop_eq_getElem_cons (by rw [Array.length_toList];exact hlt),List.take_succ_cons,List.take_zero]
    have:=aqU hlt
    rw [List.getElem?_eq_getElem (by rw [Array.length_toList];exact hlt)] at this
    rw [Option.some.inj this])
   have hap: ¬9223372036854775807< (⟨args.toArray⟩:ByteArray).size+(s.extract i (i+1)).size:=by rw [hsz,ByteArray.size_extract];omega
   rw [hx] at HN
   replace HN:=Hq HN
   clear hn h41 hM hsz
   go_wp2_with (go_at_call 135;(first|rw [hx] |skip);refine(HN.out _).mono ?_;rintro e w1 ⟨rfl,hb⟩;have HB1:=Hq (HB.out.trans (hb.mono HB.out.size));clear hb)
   go_roundw
   case rel=>exact⟨f,i+n,args++ [s[i]'hlt],by rw [←HE.out],by go_num,by omega,by omega,by omega,by simp;omega,HX,HB1⟩
   case measure=>simp [RowKit.intOf];omega
  have HX:=Hq (HG.out.symm.trans (eqx (by rw [gqG (.inl Om)];show s.size≤i+1;omega)))
  have hlt': ¬(i:Int) < (s.size:Int):=by omega
  have hge:(s.size:Int) - 1≤(i:Int):=by omega
  go_wp2_with fail
  refine bodyPost_ret (bq9 rfl rfl rfl rfl _) rfl ?_
  exact⟨by rw [HX.out];rfl,HB.out⟩
end Go.Proofs.YtdbniocnjhfhdaaGreatDoor
