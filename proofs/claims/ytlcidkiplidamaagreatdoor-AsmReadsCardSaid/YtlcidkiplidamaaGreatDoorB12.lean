/-
  What the laws rest on, part 12: walks of the program's functions and plain laws. Conditions: none but those that each theorem names.
-/
import Derived.Test.YtlcidkiplidamaaGreatDoorB00
import Derived.Test.YtlcidkiplidamaaGreatDoorB11
import Derived.Test.YtlcidkiplidamaaGreatDoorB10
set_option linter.unusedSimpArgs false
set_option linter.unusedVariables false
set_option maxRecDepth 100000
set_option maxHeartbeats 2000000
namespace Go.Proofs.YtlcidkiplidamaaGreatDoor
open Go Go.RowKit Lib
def hqN (s:ByteArray):Nat:=if aqx (s.extract 0 (aqr s)).data.toList=true then aqr s else 0
theorem bqh (s:ByteArray) (i j:Nat):(s.extract i j).data.toList=(s.data.toList.drop i).take (j - i):=by rw [aqK]
theorem oq1 {l:List UInt8} {c:UInt8} {i:Nat} (hi:l[i]?=some c) (hn: ∀q:Nat,q<i→l[q]?≠some c):Lib.indexByte l c=(i:Int):=by
 have hg:=Lib.indexByte_ge l c
 by_cases h:Lib.indexByte l c= -1
 ·exact absurd hi (Lib.indexByte_none h i)
 obtain⟨o,ho⟩:=Int.eq_ofNat_of_zero_le (show 0≤Lib.indexByte l c by omega)
 have hs:=Lib.indexByte_some ho
 rcases Nat.lt_trichotomy o i with h|h|h
 ·exact absurd hs.1 (hn o h)
 ·rw [ho,h]
 exact absurd hi (hs.2 i h)
theorem oq2 {l:List UInt8} {c:UInt8} (hn: ∀q:Nat,l[q]?≠some c):Lib.indexByte l c= -1:=by
 have hg:=Lib.indexByte_ge l c
 by_cases h:Lib.indexByte l c= -1
 ·exact h
 obtain⟨o,ho⟩:=Int.eq_ofNat_of_zero_le (show 0≤Lib.indexByte l c by omega)
 exact absurd (Lib.indexByte_some ho).1 (hn o)
theorem eqj {c:UInt8} {l:List UInt8} (h1:c≠73) (h2:c≠76):aqx (c::l)=false:=by
 unfold aqx
 have e1:((c::l)== [73])=false:=by rw [beq_eq_false_iff_ne];intro e;injection e with e;exact h1 e
 have e2:((c::l).headD 0==76)=false:=by rw [beq_eq_false_iff_ne];exact h2
 rw [e1,e2]
 simp
theorem cqG {s:ByteArray} (h0:0<s.size):s.data.toList=(s[0]'h0)::s.data.toList.drop 1:=by
 have hl:s.data.toList.length=s.size:=Array.length_toList
 have h:=aqv (s:=s) (j:=0) h0
 conv=>lhs;rw [←List.drop_zero (l:=s.data.toList),List.drop_eq_getElem_cons (by omega)]
 rw [List.getElem?_eq_getElem (by omega)] at h
 rw [Option.some.inj h]
theorem dqE {s:ByteArray} (h0:0<s.size):s.data.toList.headD 0=s[0]'h0:=by rw [cqG h0];rfl
theorem one_I {s:ByteArray} (h0:0<s.size) (h:(s[0]'h0)=73):hqN s=1:=by
 have hp:aqr s=1:=by
  unfold aqr
  rw [dqE h0,h,if_neg (by decide)]
 have he:(s.extract 0 1).data.toList= [73]:=by
  rw [bqh,cqG h0,h]
  rfl
 unfold hqN
 rw [hp,he]
 rfl
theorem mqK {s:ByteArray} {i:Nat} (h0:0<s.size) (h:(s[0]'h0)≠73) (hi:s.data.toList[i]?=some 59) (hn: ∀q:Nat,q<i→s.data.toList[q]?≠some 59):hqN s=if aqx (s.extract 0 (i+1)).data.toList=true then i+1 else 0:=by
 by_cases h76:(s[0]'h0)=76
 ·have hx:Lib.indexByte s.data.toList 59=(i:Int):=oq1 hi hn
  have hp:aqr s=i+1:=by
   unfold aqr
   rw [dqE h0,h76,if_pos rfl,hx,if_neg (by omega)]
   omega
  unfold hqN
  rw [hp]
 have hp:aqr s=1:=by
  unfold aqr
  rw [dqE h0,if_neg h76]
 have e1:aqx (s.extract 0 1).data.toList=false:=by
  rw [bqh,cqG h0]
  exact eqj h h76
 have e2:aqx (s.extract 0 (i+1)).data.toList=false:=by
  rw [bqh,cqG h0]
  exact eqj h h76
 unfold hqN
 rw [hp,e1,e2]
 rfl
theorem mqL {s:ByteArray} (h0:0<s.size) (h:(s[0]'h0)≠73) (hn: ∀q:Nat,q<s.size→s.data.toList[q]?≠some 59):hqN s=0:=by
 have hl:s.data.toList.length=s.size:=Array.length_toList
 by_cases h76:(s[0]'h0)=76
 ·have hx:Lib.indexByte s.data.toList 59= -1:=oq2 (fun q=>by
   rcases Nat.lt_or_ge q s.size with hq|hq
   ·exact hn q hq
   rw [List.getElem?_eq_none (by omega)];simp)
  have hp:aqr s=s.size:=by
   unfold aqr
   rw [dqE h0,h76,if_pos rfl,hx,if_pos rfl]
  have e0:(s.extract 0 s.size).data.toList=s.data.toList:=by
   rw [bqh,List.drop_zero,List.take_of_length_le (by omega)]
  have e1:aqx s.data.toList=false:=by
   refine hqq (fun e=> ?_) (.inr (.inr (.inr fun e=> ?_)))
   ·rw [cqG h0] at e
    injection e with e
    exact h e
   rw [List.getLastD_eq_getLast?,List.getLast?_eq_getElem?] at e
   have:=hn (s.size - 1) (by omega)
   rw [hl] at e
   cases hq:s.data.toList[s.size - 1]? with
   |none=>rw [List.getElem?_eq_getElem (by omega)] at hq;simp at hq
   |some c=>rw [hq] at e this;simp at e;exact this (by rw [e])
  unfold hqN
  rw [hp,e0,e1]
  rfl
 have hp:aqr s=1:=by
  unfold aqr
  rw [dqE h0,if_neg h76]
 have e1:aqx (s.extract 0 1).data.toList=false:=by
  rw [bqh,cqG h0]
  exact eqj h h76
 unfold hqN
 rw [hp,e1]
 rfl
theorem mqM (s:ByteArray) (w:World) (h0:0<s.size) (hm:s.size≤1000000):
  Calls Tryz.prog 171 #[.string s] w (Ret w (.int .i64 (hqN s:Nat))):=by
 have h0':(0:Int) < (s.size:Int):=by omega
 by_cases hI:(s[0]'h0)=73
 ·have HX:=Hq (one_I h0 hI)
  have q0:(((s[0]'h0).toNat:Int)==73)=true:=by rw [hI];rfl
  clear hI
  go_enter Tryz.func171,Tryz.ntmps171
  go_wp2_with fail
  go_ret
  exact⟨by rw [HX.out];rfl,Below.refl _ _⟩
 have q0:(((s[0]'h0).toNat:Int)==73)=false:=by rw [beq_eq_false_iff_ne];intro e;exact hI (UInt8.toNat_inj.1 (by rw [show(s[0]'h0).toNat=73 by omega];rfl))
 have HS:=Hq (fun(i:Nat)=>mqK (i:=i) h0 hI)
 have HN:=Hq (mqL h0 hI)
 clear hI
 go_enter Tryz.func171,Tryz.ntmps171
 go_wp2_with fail
 go_loopw [3] (fun iv wr=> ∃i:Nat,iv= .int .i64 i∧i≤s.size∧Hid (∀q:Nat,q<i→s.data.toList[q]?≠some 59)∧Hid (Below w.heap.size w wr)) (fun i _=>s.size - (RowKit.intOf i).toNat)
 case atStart=>exact⟨0,rfl,by omega,Hq (fun q h=>absurd h (by omega)),Hq (Below.refl _ _)⟩
 case round=>
  obtain⟨i,rfl,hi,HNI,HB⟩:=hrel
  by_cases hlt:i<s.size
  ·have hlt':(i:Int) < (s.size:Int):=by omega
   have hi0:(0:Int)≤(i:Int):=by omega
   have a1:s.data.toList[i]?=some (s[i]'hlt):=aqv hlt
   by_cases he:(s[i]'hlt)=59
   ·have q1:(((s[i]'hlt).toNat:Int)==59)=true:=by rw [he];rfl
    have HX:=Hq (HS.out i (a1.trans (by rw [he])) HNI.out)
    have hi2:((i:Int)+1)≤(s.size:Int):=by omega
    have hi3:(0:Int)≤((i:Int)+1):=by omega
    have hw1:IntKind.i64.wrap ((i:Int)+1)=(i:Int)+1:=IntWalk.i64_in _ (by omega)
    obtain⟨x,hx⟩: ∃x,s.extract 0 (i+1)=x:=⟨_,rfl⟩
    rw [hx] at HX
    have HF:=fun W=>dqk x W (by rw [←hx,ByteArray.size_extract];omega)
    cases hb:aqx x.data.toList
    ·rw [hb] at HX HF
     replace HF:=Hq HF
     have HXX:=Hq (show hqN s=0 by rw [HX.out];rfl)
     clear HX hb
     clear a1 he
     go_wp2_with (go_at_call 146;first|rw [hx] |skip;refine(HF.out _).mono ?_;rintro e w1 ⟨rfl,hb⟩)
     go_ret
     exact⟨by rw [HXX.out];rfl,HB.out.trans (hb.mono (by have:=HB.out.size;omega))⟩
    rw [hb] at HX HF
    replace HF:=Hq HF
    have HXX:=Hq (show hqN s=i+1 by rw [HX.out];rfl)
    clear HX hb
    clear a1 he
    go_wp2_with (go_at_call 146;first|rw [hx] |skip;refine(HF.out _).mono ?_;rintro e w1 ⟨rfl,hb⟩)
    go_ret
    exact⟨by rw [HXX.out];rfl,HB.out.trans (hb.mono (by have:=HB.out.size;omega))⟩
   have q1:(((s[i]'hlt).toNat:Int)==59)=false:=by rw [beq_eq_false_iff_ne];intro e;exact he (UInt8.toNat_inj.1 (by rw [show(s[i]'hlt).toNat=59 by omega];rfl))
   have HN2:=Hq (show∀q:Nat,q<i+1→s.data.toList[q]?≠some 59 from fun q h=>by
    rcases Nat.lt_or_ge q i with hq|hq
    ·exact HNI.out q hq
    obtain rfl:q=i:=by omega
    rw [a1]
    exact fun e=>he (Option.some.inj e))
   clear a1 he
   go_wp2_with fail
   go_roundw
   case rel=>exact⟨i+1,by go_num,by omega,HN2,HB⟩
   case measure=>simp [RowKit.intOf];omega
  have HX:=Hq (HN.out (fun q h=>HNI.out q (by omega)))
  have hlt': ¬(i:Int) < (s.size:Int):=by omega
  go_wp2_with fail
  go_ret
  exact⟨by rw [HX.out];rfl,HB.out⟩
theorem iqQ: ∀(f:Nat) (r:ByteArray) (args:List UInt8) (e:Nat),e≤(cqj f r args e).2.2
 |0,r,args,e=>Nat.le_refl _
 |f+1,r,args,e=>by
  rw [cqj]
  split
  ·exact Nat.le_refl _
  split
  ·exact Nat.le_refl _
  split
  ·exact Nat.le_refl _
  exact Nat.le_trans (Nat.le_add_right _ _) (iqQ f _ _ _)
def cqS (s:ByteArray) (V:Bool×List UInt8×Nat):ByteArray×ByteArray×Bool:=
 if V.1=false∨s.size≤V.2.2∨s.data.toList.getD V.2.2 0≠41 then bqt
 else if(s.extract (V.2.2+1) s.size).data.toList≠ [86]∧aqx (s.extract (V.2.2+1) s.size).data.toList=false then bqt
 else(⟨V.2.1.toArray⟩,(s.extract (V.2.2+1) s.size).extract 0 1,true)
theorem kq5 {s:ByteArray} {i:Nat} (h:i<s.size):s.data.toList.getD i 0=s[i]'h:=by
 rw [List.getD_eq_getElem?_getD,aqv h]
 rfl
theorem mqN {s:ByteArray} (h3:3≤s.size) (h255:s.size≤255) (h40:(s[0]'(by omega))=40):aqk s=cqS s (cqj 256 (s.extract 1 s.size) [] 1):=by
 unfold aqk cqS
 rw [dqE (by omega),h40,if_neg (by rintro(h|h|h) <;>first|omega|exact h rfl)]
theorem hqr {s:ByteArray} {V:Bool×List UInt8×Nat} (h:V.1=false∨s.size≤V.2.2∨s.data.toList.getD V.2.2 0≠41):cqS s V=bqt:=by
 unfold cqS
 rw [if_pos h]
theorem jqB:aqx []=false:=rfl
theorem eqk {s:ByteArray} {V:Bool×List UInt8×Nat} (h:s.size≤V.2.2+1):cqS s V=bqt:=by
 unfold cqS
 split
 ·rfl
 have e:(s.extract (V.2.2+1) s.size).data.toList= []:=by
  rw [bqh,List.drop_of_length_le (by rw [show s.data.toList.length=s.size from Array.length_toList];omega),List.take_nil]
 rw [e,if_pos ⟨by simp,jqB⟩]
theorem fqJ {s:ByteArray} (h: ¬s.size≤255∨s.size<3∨s.data.toList.headD 0≠40):aqk s=bqt:=by
 unfold aqk
 split
 ·rfl
 rename_i hn
 have h2:s.size<3:=by
  rcases h with h|h|h
  ·exact absurd (.inr (.inr (by omega))) hn
  ·exact h
  exact absurd (.inr (.inl h)) hn
 have hg:=iqQ 256 (s.extract 1 s.size) [] 1
 obtain⟨V,hV⟩: ∃V,cqj 256 (s.extract 1 s.size) [] 1=V:=⟨_,rfl⟩
 rw [hV] at hg⊢
 show cqS s V=bqt
 exact eqk (by omega)
theorem jqC {s:ByteArray} {args:List UInt8} {i:Nat} (hi:i<s.size) (h41:(s[i]'hi)=41) (b:Bool) (hb:((s.extract (i+1) s.size).data.toList== [86] ||aqx (s.extract (i+1) s.size).data.toList)=b):
  cqS s (true,args,i)=if b=true then(⟨args.toArray⟩,(s.extract (i+1) s.size).extract 0 1,true) else bqt:=by
 unfold cqS
 rw [if_neg (by
  rintro(h|h|h)
  ·cases h
  ·exact absurd h (by show¬s.size≤i;omega)
  exact h (by show s.data.toList.getD i 0=41;rw [kq5 hi,h41]))]
 cases b
 ·simp only [Bool.or_eq_false_iff,beq_eq_false_iff_ne] at hb
  rw [if_pos ⟨hb.1,hb.2⟩]
  rfl
 rw [if_neg]
 ·rfl
 rintro⟨h1,h2⟩
 rw [h2,Bool.or_false,beq_iff_eq] at hb
 exact h1 hb
theorem gqv {f:Nat} {s:ByteArray} {args:List UInt8} {i e:Nat} (h:s.size≤i∨s.data.toList.getD i 0=41):cqj f (s.extract i s.size) args e=(true,args,e):=by
 cases f with
 |zero=>rfl
 |succ f=>
  rw [cqj]
  by_cases hz:s.size≤i
  ·rw [if_pos (by rw [ByteArray.size_extract];omega)]
  rw [if_neg (by rw [ByteArray.size_extract];omega),if_pos]
  have h41:=h.resolve_left hz
  rw [bqh,List.headD_eq_head?_getD,List.head?_take,List.head?_drop,if_neg (by omega), ←List.getD_eq_getElem?_getD]
  exact h41
theorem iqR {s:ByteArray} {i:Nat} (h:i<s.size):(s.extract i s.size).data.toList.headD 0=s[i]'h:=by
 rw [bqh,List.headD_eq_head?_getD,List.head?_take,List.head?_drop,if_neg (by omega),aqv h]
 rfl
theorem hqs {f:Nat} {s:ByteArray} {args:List UInt8} {i e:Nat} (h:i<s.size) (h41:(s[i]'h)≠41) (hb:hqN (s.extract i s.size)=0∨args.length=16):cqj (f+1) (s.extract i s.size) args e=(false,args,e):=by
 have hp:=(dq5 (s.extract i s.size) (by rw [ByteArray.size_extract];omega)).1
 rw [cqj,if_neg (by rw [ByteArray.size_extract];omega),iqR h,if_neg h41,if_pos]
 refine hb.imp (fun h0=> ?_) id
 unfold hqN at h0
 split at h0
 ·omega
 rename_i hf
 exact Bool.eq_false_iff.2 hf
theorem oqr (s:ByteArray) (i n:Nat) (h:i+n≤s.size):(s.extract i s.size).extract n (s.size - i)=s.extract (i+n) s.size:=by
 apply ByteArray.ext
 apply Array.toList_inj.1
 rw [bqh,bqh,bqh,List.drop_take,List.drop_drop,List.take_take]
 congr 1
 omega
theorem jqD {f:Nat} {s:ByteArray} {args:List UInt8} {i e n:Nat} (h:i<s.size) (h41:(s[i]'h)≠41) (hn:hqN (s.extract i s.size)=n) (h0:n≠0) (ha:args.length≠16):cqj (f+1) (s.extract i s.size) args e=cqj f (s.extract (i+n) s.size) (args++ [s[i]'h]) (e+n)∧i+n≤s.size:=by
 have hp:=(dq5 (s.extract i s.size) (by rw [ByteArray.size_extract];omega)).2
 unfold hqN at hn
 split at hn
 ·rename_i hf
  rw [hn] at hp
  rw [ByteArray.size_extract] at hp
  have hin:i+n≤s.size:=by omega
  refine⟨?_,hin⟩
  have hx:(s.extract i s.size).size=s.size - i:=by rw [ByteArray.size_extract];omega
  have hz: ¬(s.extract i s.size).size=0:=by omega
  have hh:=iqR h
  have he:=oqr s i n hin
  have hno: ¬(aqx ((s.extract i s.size).extract 0 (aqr (s.extract i s.size))).data.toList=false∨args.length=16):=by
   rw [hf]
   rintro(h|h)
   ·cases h
   exact ha h
  rw [cqj,if_neg hz,hh,if_neg h41,if_neg hno,hn,hx,he]
 omega
theorem bq5 {P:Program} {fn:Func} {tmps:Array Value} {a b c:Tmp} {x y z:Value} (hr:fn.results= #[.tmp a, .tmp b, .tmp c]) (ha:tmps.getD a undef=x) (hb:tmps.getD b undef=y) (hc:tmps.getD c undef=z) (w:World):(results fn tmps).run P w= .ok (.tuple #[x,y,z]) w:=by
 unfold results
 rw [hr]
 rw [Array.getD_eq_getD_getElem?] at ha hb hc
 simp [ha,hb,hc,Result.andThen]
theorem cqL (s:ByteArray) (w:World) (hm:s.size≤1000000):
  Calls Tryz.prog 142 #[.string s] w (Ret w (.tuple #[.string (aqk s).1, .string (aqk s).2.1, .bool (aqk s).2.2])):=by
 by_cases h1:255<s.size
 ·have HV:=Hq (fqJ (s:=s) (.inl (by omega)))
  have h1':(255:Int) < (s.size:Int):=by omega
  rw [HV.out]
  go_enter Tryz.func142,Tryz.ntmps142
  go_wp2_with fail
  refine bodyPost_ret (bq5 rfl rfl rfl rfl _) rfl ⟨rfl,Below.refl _ _⟩
 have h1': ¬(255:Int) < (s.size:Int):=by omega
 by_cases h2:s.size<3
 ·have HV:=Hq (fqJ (s:=s) (.inr (.inl h2)))
  have h2':(s.size:Int) <3:=by omega
  rw [HV.out]
  go_enter Tryz.func142,Tryz.ntmps142
  go_wp2_with fail
  refine bodyPost_ret (bq5 rfl rfl rfl rfl _) rfl ⟨rfl,Below.refl _ _⟩
 have h2': ¬(s.size:Int) <3:=by omega
 have h0:0<s.size:=by omega
 have h0':(0:Int) < (s.size:Int):=by omega
 by_cases h40:(s[0]'h0)=40
 case neg=>
  have HV:=Hq (fqJ (s:=s) (.inr (.inr (by rw [dqE h0];exact h40))))
  have q0:(((s[0]'h0).toNat:Int)==40)=false:=by rw [beq_eq_false_iff_ne];intro e;exact h40 (UInt8.toNat_inj.1 (by rw [show(s[0]'h0).toNat=40 by omega];rfl))
  rw [HV.out]
  clear h40
  go_enter Tryz.func142,Tryz.ntmps142
  go_wp2_with fail
  refine bodyPost_ret (bq5 rfl rfl rfl rfl _) rfl ⟨rfl,Below.refl _ _⟩
 have q0:(((s[0]'h0).toNat:Int)==40)=true:=by rw [h40];rfl
 obtain⟨V,hV⟩: ∃V,aqk s=V:=⟨_,rfl⟩
 have HV:=Hq (show cqS s (cqj 256 (s.extract 1 s.size) [] 1)=V by rw [←hV];exact(mqN (by omega) (by omega) h40).symm)
 rw [hV]
 clear hV h40
 go_enter Tryz.func142,Tryz.ntmps142
 go_wp2_with fail
 go_loopw [5,6] (fun av iv wr=> ∃(f i:Nat) (args:List UInt8),av= .string ⟨args.toArray⟩∧iv= .int .i64 i∧1≤i∧i≤s.size∧s.size<f+i∧args.length≤16∧Hid (cqS s (cqj f (s.extract i s.size) args i)=V)∧Hid (Below w.heap.size w wr)) (fun _ i _=>s.size - (RowKit.intOf i).toNat)
 case atStart=>exact⟨256,1, [],rfl,rfl,by omega,by omega,by omega,by simp,HV,Hq (Below.refl _ _)⟩
 case round=>
  obtain⟨f,i,args,rfl,rfl,hi1,hi,hf,ha,HG,HB⟩:=hrel
  obtain⟨f,rfl⟩: ∃f',f=f'+1:=⟨f - 1,by omega⟩
  have hi0:(0:Int)≤(i:Int):=by omega
  have hwe:IntKind.i64.wrap ((s.size:Int) - 1)=(s.size:Int) - 1:=IntWalk.i64_in _ (by omega)
  by_cases hlt:i<s.size
  ·have hlt':(i:Int) < (s.size:Int):=by omega
   by_cases h41:(s[i]'hlt)=41
   ·have q1:(((s[i]'hlt).toNat:Int)==41)=true:=by rw [h41];rfl
    have HG2:=Hq (show cqS s (true,args,i)=V by rw [←HG.out,gqv (.inr (by rw [kq5 hlt,h41]))])
    by_cases hla:s.size≤i+1
    ·have HX:=Hq (HG2.out.symm.trans (eqk (V:=(true,args,i)) hla))
     have hge:(s.size:Int) - 1≤(i:Int):=by omega
     clear h41
     go_wp2_with fail
     refine bodyPost_ret (bq5 rfl rfl rfl rfl _) rfl ?_
     exact⟨by rw [HX.out];rfl,HB.out⟩
    have hge: ¬(s.size:Int) - 1≤(i:Int):=by omega
    have hw1:IntKind.i64.wrap ((i:Int)+1)=((i+1:Nat):Int):=by rw [IntWalk.i64_in _ (by omega)];omega
    have hs1:(0:Int)≤((i+1:Nat):Int):=by omega
    have hs2:((i+1:Nat):Int)≤(s.size:Int):=by omega
    have HR:=fun b=>jqC (args:=args) hlt h41 b
    have hxs:(s.extract (i+1) s.size).size=s.size - (i+1):=by rw [ByteArray.size_extract];omega
    obtain⟨x,hx⟩: ∃x,s.extract (i+1) s.size=x:=⟨_,rfl⟩
    rw [hx] at HR hxs
    have hx1:(1:Int)≤(x.size:Int):=by omega
    have hx0:(0:Int)≤(1:Int):=by omega
    have HF:=fun W=>dqk x W (by omega)
    obtain⟨b1,hb1⟩: ∃b,(x.data.toList== [86])=b:=⟨_,rfl⟩
    obtain⟨b2,hb2⟩: ∃b,aqx x.data.toList=b:=⟨_,rfl⟩
    have hq1:(x.toList== [86])=b1:=by rw [ByteArray.toList_eq];exact hb1
    have HX:=Hq (HG2.out.symm.trans (HR _ rfl))
    rw [hb1,hb2] at HX
    rw [hb2] at HF
    replace HF:=Hq HF
    clear HR hb1 hb2 h41 HG2 HG
    cases b1<;>cases b2
    all_goals
     go_wp2_with (go_at_call 146;(first|rw [hx] |skip);refine(HF.out _).mono ?_;rintro e w1 ⟨rfl,hb⟩;have HB1:=Hq (HB.out.trans (hb.mono HB.out.size));clear hb)
     (try go_region)
     (try go_wp2_with fail)
     refine bodyPost_ret (bq5 rfl rfl rfl rfl _) rfl ?_
     first|exact⟨by rw [HX.out];rfl,HB1.out⟩ |exact⟨by rw [HX.out];rfl,below_drewN HB1.out 1⟩
   have q1:(((s[i]'hlt).toNat:Int)==41)=false:=by rw [beq_eq_false_iff_ne];intro e;exact h41 (UInt8.toNat_inj.1 (by rw [show(s[i]'hlt).toNat=41 by omega];rfl))
   have HN:=fun W=>mqM (s.extract i s.size) W (by rw [ByteArray.size_extract];omega) (by rw [ByteArray.size_extract];omega)
   obtain⟨n,hn⟩: ∃n,hqN (s.extract i s.size)=n:=⟨_,rfl⟩
   rw [hn] at HN
   have hi2:(i:Int)≤(s.size:Int):=by omega
   obtain⟨x,hx⟩: ∃x,s.extract i s.size=x:=⟨_,rfl⟩
   have hsz:(⟨args.toArray⟩:ByteArray).size=args.length:=by show args.toArray.size=_;simp
   by_cases h0n:n=0
   ·have HX:=Hq (HG.out.symm.trans ((congrArg (cqS s) (hqs (f:=f) (args:=args) (e:=i) hlt h41 (.inl (hn.trans h0n)))).trans (hqr (.inl rfl))))
    subst h0n
    rw [hx] at HN
    replace HN:=Hq HN
    clear hn h41
    go_wp2_with (go_at_call 171;(first|rw [hx] |skip);refine(HN.out _).mono ?_;rintro e w1 ⟨rfl,hb⟩;have HB1:=Hq (HB.out.trans (hb.mono HB.out.size));clear hb)
    refine bodyPost_ret (bq5 rfl rfl rfl rfl _) rfl ?_
    exact⟨by rw [HX.out];rfl,HB1.out⟩
   have hnq:((n:Int)==0)=false:=by rw [beq_eq_false_iff_ne];omega
   by_cases h16:args.length=16
   ·have HX:=Hq (HG.out.symm.trans ((congrArg (cqS s) (hqs (f:=f) (args:=args) (e:=i) hlt h41 (.inr h16))).trans (hqr (.inl rfl))))
    have h16':(((⟨args.toArray⟩:ByteArray).size:Int)==16)=true:=by rw [hsz,h16];rfl
    rw [hx] at HN
    replace HN:=Hq HN
    clear hn h41 hsz
    go_wp2_with (go_at_call 171;(first|rw [hx] |skip);refine(HN.out _).mono ?_;rintro e w1 ⟨rfl,hb⟩;have HB1:=Hq (HB.out.trans (hb.mono HB.out.size));clear hb)
    refine bodyPost_ret (bq5 rfl rfl rfl rfl _) rfl ?_
    exact⟨by rw [HX.out];rfl,HB1.out⟩
   have h16':(((⟨args.toArray⟩:ByteArray).size:Int)==16)=false:=by rw [hsz,beq_eq_false_iff_ne];omega
   have hM:=jqD (f:=f) (args:=args) (e:=i) hlt h41 hn h0n h16
   have hin:=hM.2
   have HX:=Hq ((congrArg (cqS s) hM.1).symm.trans HG.out)
   have hw1:IntKind.i64.wrap ((i:Int)+1)=((i+1:Nat):Int):=by rw [IntWalk.i64_in _ (by omega)];omega
   have hs1:(0:Int)≤((i+1:Nat):Int):=by omega
   have hs2:((i+1:Nat):Int)≤(s.size:Int):=by omega
   have hs3:(i:Int)≤((i+1:Nat):Int):=by omega
   have HE:=Hq (show(⟨args.toArray⟩:ByteArray)++s.extract i (i+1)=⟨(args++ [s[i]'hlt]).toArray⟩ by
    apply ByteArray.ext
    apply Array.toList_inj.1
    rw [ByteArray.data_append,Array.toList_append,bqh,show i+1 - i=1 by omega,List.drop_eq_getElem_cons (by rw [Array.length_toList];exact hlt),List.take_succ_cons,List.take_zero]
    have:=aqv hlt
    rw [List.getElem?_eq_getElem (by rw [Array.length_toList];exact hlt)] at this
    rw [Option.some.inj this])
   have hap: ¬9223372036854775807< (⟨args.toArray⟩:ByteArray).size+(s.extract i (i+1)).size:=by rw [hsz,ByteArray.size_extract];omega
   rw [hx] at HN
   replace HN:=Hq HN
   clear hn h41 hM hsz
   go_wp2_with (go_at_call 171;(first|rw [hx] |skip);refine(HN.out _).mono ?_;rintro e w1 ⟨rfl,hb⟩;have HB1:=Hq (HB.out.trans (hb.mono HB.out.size));clear hb)
   go_roundw
   case rel=>exact⟨f,i+n,args++ [s[i]'hlt],by rw [←HE.out],by go_num,by omega,by omega,by omega,by simp;omega,HX,HB1⟩
   case measure=>simp [RowKit.intOf];omega
  have HX:=Hq (HG.out.symm.trans (eqk (by rw [gqv (.inl (by omega))];show s.size≤i+1;omega)))
  have hlt': ¬(i:Int) < (s.size:Int):=by omega
  have hge:(s.size:Int) - 1≤(i:Int):=by omega
  go_wp2_with fail
  refine bodyPost_ret (bq5 rfl rfl rfl rfl _) rfl ?_
  exact⟨by rw [HX.out];rfl,HB.out⟩
set_option maxHeartbeats 1000000
theorem cq1 (c:aqj) (A:Option Addr) (cap:Nat) (ifs flds mths:Value) (n tag:Int) (ok:Nat→Prop) (w:World) (h:cqX w ok 5 c.pool.length (c.pool.flatMap Ko.cells) (.slice A c.pool.length cap)) (hifs:ifs.oneCell'=true) (hflds:flds.oneCell'=true) (hmths:mths.oneCell'=true) (hn:n≤4611686018427387904) (hn0: -4611686018427387904≤n):
  Calls Tryz.prog 147 #[bqp c (.slice A c.pool.length cap) ifs flds mths, .int .i64 n, .int .i64 tag] w fun e w'=>e= .returned (bqm (aqq c.pool n tag))∧Below w.heap.size w w':=by
 have hmax:c.pool.length≤1048576:=by
  obtain⟨_,_,_,_,h2,_⟩:=h
  exact h2
 have hcap:c.pool.length≤cap:=by
  obtain⟨_,_,e,h1,_⟩:=h
  injection e with _ _ e
  subst e
  exact h1
 have hcell:=bq4 h
 have HC:=Hq hcell
 clear h hcell
 obtain⟨mi,ma,pool,acc,th,su,fi,ff,fm⟩:=c
 simp only at hmax hcap HC⊢
 unfold bqp
 simp only
 by_cases h1:n<1
 ·have HP:=Hq (show aqq pool n tag=none by unfold aqq;rw [if_pos h1])
  go_enter Tryz.func147,Tryz.ntmps147
  go_wp2_with fail
  refine bodyPost_ret (v:=bqm none) (by simp [bqm,koV,bqa,results,Tryz.results147,go_sem]) rfl ⟨by rw [HP.out],((Below.refl _ _).alloc (Nat.le_refl _) _).alloc (by simp) _⟩
 obtain⟨k,rfl⟩: ∃k:Nat,n=(k:Int)+1:=⟨(n - 1).toNat,by omega⟩
 have hb1:decide ((k:Int)+1<1)=false:=by simp;omega
 rcases hx:pool[k]? with _|x
 ·have hge:pool.length≤k:=by simpa using hx
  have HP:=Hq (show aqq pool ((k:Int)+1) tag=none by unfold aqq;rw [if_neg h1,show((k:Int)+1 - 1).toNat=k by omega,hx])
  have hb2:decide ((pool.length:Int) < (k:Int)+1)=true:=by simp;omega
  have hgt:(pool.length:Int) < (k:Int)+1:=by omega
  have HX:=Hq hx
  clear hx
  go_enter Tryz.func147,Tryz.ntmps147
  go_wp2_with fail
  refine bodyPost_ret (v:=bqm none) (by simp [bqm,koV,bqa,results,Tryz.results147,go_sem]) rfl ⟨by rw [HP.out],((Below.refl _ _).alloc (Nat.le_refl _) _).alloc (by simp) _⟩
 have hlt:k<pool.length:=(List.getElem?_eq_some_iff.1 hx).1
 have hb2:decide ((pool.length:Int) < (k:Int)+1)=false:=by simp;omega
 have hgt: ¬(pool.length:Int) < (k:Int)+1:=by omega
 obtain⟨b,off,rfl,hbl,c0,c1,c2,c3,c4⟩:=HC.out k x hx
 obtain⟨x1,x2,x3,x4,x5,x6,x7,x8,x9,x10,x11,x12⟩:=far b w.heap.size hbl
 by_cases ht:x.tag=tag
 ·have HP:=Hq (show aqq pool ((k:Int)+1) tag=some x by unfold aqq;rw [if_neg h1,show((k:Int)+1 - 1).toNat=k by omega,hx];simp [ht])
  subst ht
  clear hx
  go_enter Tryz.func147,Tryz.ntmps147
  go_wp2_with fail
  refine bodyPost_ret (v:=bqm (some x)) (by simp [bqm,koV,bqa,results,Tryz.results147,go_sem]) rfl ⟨by rw [HP.out],((Below.refl _ _).alloc (Nat.le_refl _) _).alloc (by simp) _⟩
 have HP:=Hq (show aqq pool ((k:Int)+1) tag=none by unfold aqq;rw [if_neg h1,show((k:Int)+1 - 1).toNat=k by omega,hx];simp [ht])
 have hb3:(x.tag !=tag)=true:=by simp [ht]
 clear hx ht
 go_enter Tryz.func147,Tryz.ntmps147
 go_wp2_with fail
 refine bodyPost_ret (v:=bqm none) (by simp [bqm,koV,bqa,results,Tryz.results147,go_sem]) rfl ⟨by rw [HP.out],((Below.refl _ _).alloc (Nat.le_refl _) _).alloc (by simp) _⟩
theorem fqj (c:aqj) (A:Option Addr) (cap:Nat) (ifs flds mths:Value) (n:Int) (ok:Nat→Prop) (w:World) (h:aqQ w ok c A cap ifs flds mths) (hn:bqF n):
  Calls Tryz.prog 143 #[bqp c (.slice A c.pool.length cap) ifs flds mths, .int .i64 n] w fun e w'=>e= .returned (dqc (aqg c.pool n))∧Below w.heap.size w w':=by
 have H:=Hq (h.below ((Below.refl _ _).alloc (Nat.le_refl _) (.cells #[.int .i64 c.minor, .int .i64 c.major, .slice A c.pool.length cap, .int .i64 c.acc, .int .i64 c.this, .int .i64 c.sup,ifs,flds,mths] 28)))
 have HN:=Hq hn
 have HT:=Hq (show aqg c.pool n=(aqq c.pool n 1).map (·.text) from rfl)
 rcases hx:aqq c.pool n 1 with _|x
 all_goals
  have HX:=Hq hx
  clear h hn hx
  rw [aqe]
  go_enter Tryz.func143,Tryz.ntmps143
  go_wp2_with (go_at_call 147;refine(cq1 c A cap ifs flds mths n 1 ok _ H.out.hp H.out.h1 H.out.h2 H.out.h3 HN.out.2 HN.out.1).mono ?_;rw [HX.out];rintro e w1 ⟨rfl,hb⟩;simp only [bqm,koV,Option.getD_none,Option.getD_some,Option.isSome_none,Option.isSome_some,bqa];have HB:=Hq hb;clear hb)
  go_ret2
  refine⟨?_,(((Below.refl _ _).alloc (Nat.le_refl _) _).trans (HB.out.mono (by simp))).alloc (by have:=HB.out.size;simp at this;omega) _⟩
  rw [HT.out,HX.out]
  rfl
theorem kq6 (c:aqj) (A:Option Addr) (cap:Nat) (ifs flds mths:Value) (n:Int) (ok:Nat→Prop) (w:World) (h:aqQ w ok c A cap ifs flds mths) (hn:bqF n) (hf: ∀k∈c.pool,bqF k.a):
  Calls Tryz.prog 150 #[bqp c (.slice A c.pool.length cap) ifs flds mths, .int .i64 n] w fun e w'=>e= .returned (dqc (bqk c.pool n))∧Below w.heap.size w w':=by
 have H:=Hq (h.below ((Below.refl _ _).alloc (Nat.le_refl _) (.cells #[.int .i64 c.minor, .int .i64 c.major, .slice A c.pool.length cap, .int .i64 c.acc, .int .i64 c.this, .int .i64 c.sup,ifs,flds,mths] 28)))
 have X0:=Hq (aqo w [.int .i64 c.minor, .int .i64 c.major, .slice A c.pool.length cap, .int .i64 c.acc, .int .i64 c.this, .int .i64 c.sup,ifs,flds,mths] 28)
 have HN:=Hq hn
 have HF:=Hq hf
 have HT:=Hq (show bqk c.pool n=(aqq c.pool n 7).bind fun k=>aqg c.pool k.a from rfl)
 rcases hx:aqq c.pool n 7 with _|x
 ·have HX:=Hq hx
  clear h hn hx hf
  rw [aqe]
  go_enter Tryz.func150,Tryz.ntmps150
  go_wp2_with (go_at_call 147;refine(cq1 c A cap ifs flds mths n 7 ok _ H.out.hp H.out.h1 H.out.h2 H.out.h3 HN.out.2 HN.out.1).mono ?_;rw [HX.out];rintro e w1 ⟨rfl,hb⟩;simp only [bqm,koV,Option.getD_none,Option.getD_some,Option.isSome_none,Option.isSome_some,bqa];have HB:=Hq hb;clear hb)
  go_ret2
  refine⟨?_,(((Below.refl _ _).alloc (Nat.le_refl _) _).trans (HB.out.mono (by simp))).alloc (by have:=HB.out.size;simp at this;omega) _⟩
  rw [HT.out,HX.out]
  rfl
 have HX:=Hq hx
 have HXF:=Hq (HF.out x (cql hx).1)
 clear h hn hx hf
 rw [aqe]
 go_enter Tryz.func150,Tryz.ntmps150
 go_wp2_with (go_at_call 147;refine(cq1 c A cap ifs flds mths n 7 ok _ H.out.hp H.out.h1 H.out.h2 H.out.h3 HN.out.2 HN.out.1).mono ?_;rw [HX.out];rintro e w1 ⟨rfl,hb⟩;simp only [bqm,koV,Option.getD_none,Option.getD_some,Option.isSome_none,Option.isSome_some,bqa];refine aqa ?_)
 have HB:=Hq hb
 have hz:=hb.size
 simp at hz
 have X1:=Hq (X0.out.below hb (by simp))
 have H1:=Hq (H.out.below hb)
 clear hb
 obtain⟨x1,x2,x3,x4,x5,x6,x7,x8,x9,x10,x11,x12⟩:=far w.heap.size w1.heap.size (by omega)
 have c0:=X1.out.cell 0 rfl
 have c1:=X1.out.cell 1 rfl
 have c2:=X1.out.cell 2 rfl
 have c3:=X1.out.cell 3 rfl
 have c4:=X1.out.cell 4 rfl
 have c5:=X1.out.cell 5 rfl
 have c6:=X1.out.cell 6 rfl
 have c7:=X1.out.cell 7 rfl
 have c8:=X1.out.cell 8 rfl
 refine aqb ?_
 go_wp2_with (go_at_call 143;refine aqa ?_)
 refine aqb ?_
 refine(fqj c A cap ifs flds mths x.a ok _ (H1.out.below ((Below.refl _ _).alloc (Nat.le_refl _) _)) HXF.out).mono ?_
 rintro e w2 ⟨rfl,hb2⟩
 simp only [dqc]
 have HB2:=Hq hb2
 clear hb2
 go_wp2_with fail
 go_ret2
 refine⟨?_,((((Below.refl _ _).alloc (Nat.le_refl _) _).trans (HB.out.mono (by simp))).alloc (by omega) _).trans (HB2.out.mono (by simp;omega))⟩
 rw [HT.out,HX.out]
 rfl
def mqO (pool:List Ko):Option Ko→ByteArray×ByteArray×Bool
 |none=> (⟨#[]⟩,⟨#[]⟩,false)
 |some k=> ((aqg pool k.a).getD ⟨#[]⟩,(aqg pool k.b).getD ⟨#[]⟩,(aqg pool k.a).isSome&&(aqg pool k.b).isSome)
def dqO (pool:List Ko) (n:Int):ByteArray×ByteArray×Bool:=mqO pool (aqq pool n 12)
def mqP (v:ByteArray×ByteArray×Bool):Value:= .tuple #[.string v.1, .string v.2.1, .bool v.2.2]
theorem jqE (pool:List Ko) (n:Int):dqC pool n=if(dqO pool n).2.2=true then some ((dqO pool n).1,(dqO pool n).2.1) else none:=by
 unfold dqC dqO
 cases aqq pool n 12 with
 |none=>rfl
 |some k=>
  simp only [Option.bind_some,mqO]
  obtain⟨a,ha⟩: ∃a,aqg pool k.a=a:=⟨_,rfl⟩
  obtain⟨b,hb⟩: ∃a,aqg pool k.b=a:=⟨_,rfl⟩
  simp only [ha,hb]
  cases a<;>cases b<;>rfl
theorem fqK (c:aqj) (A:Option Addr) (cap:Nat) (ifs flds mths:Value) (n:Int) (ok:Nat→Prop) (w:World) (h:aqQ w ok c A cap ifs flds mths) (hn:bqF n) (hf: ∀k∈c.pool,bqF k.a∧bqF k.b):
  Calls Tryz.prog 148 #[bqp c (.slice A c.pool.length cap) ifs flds mths, .int .i64 n] w fun e w'=>e= .returned (mqP (dqO c.pool n))∧Below w.heap.size w w':=by
 have H:=Hq (h.below ((Below.refl _ _).alloc (Nat.le_refl _) (.cells #[.int .i64 c.minor, .int .i64 c.major, .slice A c.pool.length cap, .int .i64 c.acc, .int .i64 c.this, .int .i64 c.sup,ifs,flds,mths] 28)))
 have X0:=Hq (aqo w [.int .i64 c.minor, .int .i64 c.major, .slice A c.pool.length cap, .int .i64 c.acc, .int .i64 c.this, .int .i64 c.sup,ifs,flds,mths] 28)
 have W0:=Hq ((Below.refl w.heap.size w).alloc (Nat.le_refl _) (.cells #[.int .i64 c.minor, .int .i64 c.major, .slice A c.pool.length cap, .int .i64 c.acc, .int .i64 c.this, .int .i64 c.sup,ifs,flds,mths] 28))
 have HN:=Hq hn
 have HF:=Hq hf
 have HT:=Hq (show dqO c.pool n=mqO c.pool (aqq c.pool n 12) from rfl)
 rcases hx:aqq c.pool n 12 with _|x
 ·have HX:=Hq hx
  clear h hn hx hf
  rw [aqe]
  go_enter Tryz.func148,Tryz.ntmps148
  go_wp2_with (go_at_call 147;refine(cq1 c A cap ifs flds mths n 12 ok _ H.out.hp H.out.h1 H.out.h2 H.out.h3 HN.out.2 HN.out.1).mono ?_;rw [HX.out];rintro e w1 ⟨rfl,hb⟩;simp only [bqm,koV,Option.getD_none,Option.getD_some,Option.isSome_none,Option.isSome_some,bqa];have HB:=Hq hb;clear hb)
  refine bodyPost_ret (dq6 rfl rfl rfl rfl _) rfl ?_
  refine⟨?_,(W0.out.trans (HB.out.mono (by simp))).alloc (by have:=HB.out.size;simp at this;omega) _⟩
  rw [HT.out,HX.out]
  rfl
 have HX:=Hq hx
 have HXF:=Hq (HF.out x (cql hx).1)
 clear h hn hx hf
 rcases hxa:aqg c.pool x.a with _|sa<;>rcases hxb:aqg c.pool x.b with _|sb
 all_goals
  have HXA:=Hq hxa
  have HXB:=Hq hxb
  clear hxa hxb
  rw [aqe]
  go_enter Tryz.func148,Tryz.ntmps148
  go_wp2_with (go_at_call 147;refine(cq1 c A cap ifs flds mths n 12 ok _ H.out.hp H.out.h1 H.out.h2 H.out.h3 HN.out.2 HN.out.1).mono ?_;rw [HX.out];rintro e w1 ⟨rfl,hb⟩;simp only [bqm,koV,Option.getD_none,Option.getD_some,Option.isSome_none,Option.isSome_some,bqa];refine aqa ?_)
  have hz:=hb.size
  simp at hz
  have X1:=Hq ((X0.out.below hb (by simp)).below ((Below.refl w1.heap.size w1).alloc (Nat.le_refl _) (.cells #[.int .i64 x.tag, .string x.text, .int .i64 x.num, .int .i64 x.a, .int .i64 x.b] 33)) (by omega))
  have H1:=Hq ((H.out.below hb).below ((Below.refl w1.heap.size w1).alloc (Nat.le_refl _) (.cells #[.int .i64 x.tag, .string x.text, .int .i64 x.num, .int .i64 x.a, .int .i64 x.b] 33)))
  have Y1:=Hq (aqo w1 [.int .i64 x.tag, .string x.text, .int .i64 x.num, .int .i64 x.a, .int .i64 x.b] 33)
  have W1:=Hq ((W0.out.trans (hb.mono (by simp))).alloc (by omega) (.cells #[.int .i64 x.tag, .string x.text, .int .i64 x.num, .int .i64 x.a, .int .i64 x.b] 33))
  clear hb H X0 W0
  refine aqb ?_
  go_wp2_with (first
   | (refine wpList_load_row rfl _ _ rfl w.heap.size rfl _ _ _ _ X1.out Tryz.underlying28 rfl (by kernel_rfl) ?_)
   | (go_at_call 143;refine aqa ?_))
  refine aqb ?_
  refine(fqj c A cap ifs flds mths x.a ok _ H1.out HXF.out.1).mono ?_
  rw [HXA.out]
  rintro e w2 ⟨rfl,hb2⟩
  simp only [dqc,Option.getD_none,Option.getD_some,Option.isSome_none,Option.isSome_some]
  have hz2:=hb2.size
  simp at hz2
  have X2:=Hq (X1.out.below hb2 X1.out.lt)
  have Y2:=Hq (Y1.out.below hb2 Y1.out.lt)
  have H2:=Hq (H1.out.below hb2)
  have W2:=Hq (W1.out.trans (hb2.mono W1.out.size))
  have y4:=Y2.out.cell 4 rfl
  clear hb2 X1 Y1 H1 W1
  go_wp2_with (first
   | (refine wpList_load_row rfl _ _ rfl w.heap.size rfl _ _ _ _ X2.out Tryz.underlying28 rfl (by kernel_rfl) ?_)
   | (go_at_call 143;refine(fqj c A cap ifs flds mths x.b ok _ H2.out HXF.out.2).mono ?_;rw [HXB.out];rintro e w3 ⟨rfl,hb3⟩;simp only [dqc,Option.getD_none,Option.getD_some,Option.isSome_none,Option.isSome_some];have W3:=Hq (W2.out.trans (hb3.mono W2.out.size));clear hb3))
  refine bodyPost_ret (dq6 rfl rfl rfl rfl _) rfl ?_
  refine⟨?_,W3.out⟩
  rw [HT.out,HX.out]
  simp only [mqO,HXA.out,HXB.out]
  rfl
end Go.Proofs.YtlcidkiplidamaaGreatDoor
