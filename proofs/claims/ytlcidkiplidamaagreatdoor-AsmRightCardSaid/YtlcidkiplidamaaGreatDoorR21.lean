/-
  What the laws rest on, part 21: walks of the program's functions and plain laws. Conditions: none but those that each theorem names.
-/
import Derived.Test.YtlcidkiplidamaaGreatDoorR20
import Derived.Test.YtlcidkiplidamaaGreatDoorR03
import Derived.Test.YtlcidkiplidamaaGreatDoorR19
set_option linter.unusedSimpArgs false
set_option linter.unusedVariables false
set_option maxRecDepth 100000
set_option maxHeartbeats 1000000
namespace Go.Proofs.YtlcidkiplidamaaGreatDoor
open Go Go.RowKit Lib Go.Maps
def DPost (w:World) (n:Nat) (p:Option Int) (e:Ending) (w':World):Prop:=Below w.heap.size w w'∧match p with|some v=>e= .returned (.int .i64 v) |none=>e=wrongE n
theorem dpost_none {w w':World} {n:Nat} {p:Option Int} (hp:p=none) (hb:Below w.heap.size w w'):DPost w n p (wrongE n) w':=by
 subst hp
 exact⟨hb,rfl⟩
theorem dpost_some {w w':World} {n:Nat} {v:Int} {p:Option Int} {e:Ending} (hp:p=some v) (he:e= .returned (.int .i64 v)) (hb:Below w.heap.size w w'):DPost w n p e w':=by
 subst hp
 exact⟨hb,he⟩
def digT (neg:Bool) (s:List UInt8) (lo hi:Int):Option Int:=
 if s.all digB then
  let v:Int:=if neg then -(digN s:Int) else digN s
  if lo≤v∧v≤hi then some v else none
 else none
theorem digits_head (w:List UInt8) (lo hi:Int):aDigits w lo hi=
  if(if Lib.hasPrefix w [45] then w.drop 1 else w)= []∨11<w.length∨((if Lib.hasPrefix w [45] then w.drop 1 else w).headD 0=48∧w≠ [48]) then none else digT (Lib.hasPrefix w [45]) (if Lib.hasPrefix w [45] then w.drop 1 else w) lo hi:=rfl
theorem digN_snoc (l:List UInt8) (b:UInt8):digN (l++ [b])=10*digN l+(b.toNat - 48):=by
 unfold digN
 rw [List.foldl_append]
 rfl
theorem digN_bound (l:List UInt8) (h:l.all digB=true):digN l<10^l.length:=by
 have key: ∀(l:List UInt8) (a:Nat),l.all digB=true→l.foldl (fun n c=>10*n+(c.toNat - 48)) a< (a+1)*10^l.length:=by
  intro l
  induction l with
  |nil=>intro a _;simp
  |cons b l ih=>
   intro a h
   rw [List.all_cons,Bool.and_eq_true] at h
   have hb:=h.1
   unfold digB at hb
   simp only [Bool.and_eq_true,decide_eq_true_eq] at hb
   have:=ih (10*a+(b.toNat - 48)) h.2
   rw [List.foldl_cons,List.length_cons,Nat.pow_succ]
   refine Nat.lt_of_lt_of_le this ?_
   have h2:10*a+(b.toNat - 48)+1≤(a+1)*10:=by omega
   calc (10*a+(b.toNat - 48)+1)*10^l.length≤((a+1)*10)*10^l.length:=Nat.mul_le_mul_right _ h2
    _=(a+1)*(10^l.length*10):=by rw [Nat.mul_assoc,Nat.mul_comm 10]
 have:=key l 0 h
 simpa [digN] using this
theorem dig_take {S:List UInt8} {j:Nat} {b:UInt8} (hb:S[j]?=some b):S.take (j+1)=S.take j++ [b]:=by
 obtain⟨hlt,e⟩:=List.getElem?_eq_some_iff.1 hb
 rw [List.take_succ_eq_append_getElem hlt,e]
theorem dig_bad {S:List UInt8} {neg:Bool} {lo hi:Int} {j:Nat} {b:UInt8} (hb:S[j]?=some b) (h:digB b=false):digT neg S lo hi=none:=by
 unfold digT
 rw [if_neg]
 rw [Bool.not_eq_true,List.all_eq_false]
 exact⟨b,List.mem_of_getElem? hb,by simp [h]⟩
theorem adigits_any (kb:Nat) (vs:List Value) (n:Nat) (s:ByteArray) (lo hi:Int) (w:World) (hb:Bx w kb vs 67) (hn:vs[11]?=some (.int .i64 n)) (hz:s.size≤65536) (h64: -9223372036854775808≤lo∧hi≤9223372036854775807):
  Calls Tryz.prog 53 #[.pointer (some ⟨kb,0,none⟩), .string s, .int .i64 lo, .int .i64 hi] w (DPost w n (aDigits s.data.toList lo hi)):=by
 have HX:=Lib.hid hb
 have hkl:=hb.lt
 clear hb
 have hl:s.data.toList.length=s.size:=Array.length_toList
 have HL:=Lib.hid hl
 clear hl
 have HD:=Lib.hid (digits_head s.data.toList lo hi)
 obtain⟨H1,h1⟩: ∃H,H=Lib.hasPrefix s.data.toList [45]:=⟨_,rfl⟩
 have A1:=Lib.hid (fun W=> (show Calls Tryz.prog 124 #[.string s, .string ⟨#[45]⟩] W fun e w'=>e= .returned (.bool H1)∧w'=W by rw [h1];exact Tryz.strings_HasPrefix s ⟨#[45]⟩ W))
 rw [←h1] at HD
 have H1P:=Lib.hid h1
 clear h1
 obtain⟨S,hSd⟩: ∃S:ByteArray,S=if H1 then s.extract 1 s.size else s:=⟨_,rfl⟩
 have HSL:=Lib.hid (show S.data.toList=if H1 then s.data.toList.drop 1 else s.data.toList by
  rw [hSd]
  split
  ·rw [extract_list,List.take_of_length_le (by rw [List.length_drop,HL.out];omega)]
  ·rfl)
 rw [←HSL.out] at HD
 have HSZ:=Lib.hid (show S.data.toList.length=S.size from Array.length_toList)
 have HTL:=Lib.hid (show s.toList=s.data.toList from ByteArray.toList_eq _)
 have HTS:=Lib.hid (show S.toList=S.data.toList from ByteArray.toList_eq _)
 have hSs:S.size≤s.size:=by
  rw [hSd]
  split
  ·simp
  ·exact Nat.le_refl _
 cases H1
 ·obtain rfl:S=s:=by simpa using hSd
  clear hSd
  by_cases h0:S.size=0
  ·have he:=List.length_eq_zero_iff.1 (show S.data.toList.length=0 by rw [HSZ.out];exact h0)
   have HN:=Lib.hid (HD.out.trans (if_pos (.inl he)))
   have e0:S.toList.isEmpty=true:=by rw [HTS.out,he];rfl
   clear he
   go_enter Tryz.func53,Tryz.ntmps53
   go_wp2_with (first| (go_at_call 124;refine(A1.out _).mono ?_;rintro e w1 ⟨rfl,rfl⟩) | (go_at_call 26;refine stop_here ?_))
   refine go_on ?_
   refine(must_no kb vs n _ HX.out hn).mono ?_
   rintro e w2 ⟨rfl,rfl⟩
   go_wp2_with fail
   exact(show _∧_ from⟨rfl,dpost_none HN.out (Below.refl _ _)⟩)
  ·have hpos:0<S.size:=by omega
   have hne:S.data.toList≠ []:=fun e=>by have:=congrArg List.length e;rw [HSZ.out,List.length_nil] at this;omega
   have e0:S.toList.isEmpty=false:=by rw [HTS.out];simpa using hne
   by_cases h11:11<S.size
   ·have HN:=Lib.hid (HD.out.trans (if_pos (.inr (.inl (by rw [HL.out];exact h11)))))
    have h11': ¬(S.size:Int)≤11:=by omega
    clear hne
    go_enter Tryz.func53,Tryz.ntmps53
    go_wp2_with (first| (go_at_call 124;refine(A1.out _).mono ?_;rintro e w1 ⟨rfl,rfl⟩) | (go_at_call 26;refine stop_here ?_))
    refine go_on ?_
    refine(must_no kb vs n _ HX.out hn).mono ?_
    rintro e w2 ⟨rfl,rfl⟩
    go_wp2_with fail
    exact(show _∧_ from⟨rfl,dpost_none HN.out (Below.refl _ _)⟩)
   ·have h11':(S.size:Int)≤11:=by omega
    obtain⟨u,hu⟩: ∃u,S[0]'hpos=u:=⟨_,rfl⟩
    have hhd:S.data.toList.headD 0=u:=by rw [←head_at S hpos,hu]
    by_cases hu48:u=48
    case' pos=>
     subst hu48
     by_cases hs0:S.data.toList= [48]
     case neg=>
      have HN:=Lib.hid (HD.out.trans (if_pos (.inr (.inr ⟨hhd,hs0⟩))))
      have e1:(S.toList== [48])=false:=by rw [HTL.out];simpa using hs0
      clear hne hhd hs0
      go_enter Tryz.func53,Tryz.ntmps53
      go_wp2_with (first| (go_at_call 124;refine(A1.out _).mono ?_;rintro e w1 ⟨rfl,rfl⟩) | (go_at_call 26;refine stop_here ?_))
      refine go_on ?_
      refine(must_no kb vs n _ HX.out hn).mono ?_
      rintro e w2 ⟨rfl,rfl⟩
      go_wp2_with fail
      exact(show _∧_ from⟨rfl,dpost_none HN.out (Below.refl _ _)⟩)
     have HR:=Lib.hid (HD.out.trans (if_neg (by rw [hhd,HL.out];simp [hne,hs0];omega)))
     have e1:(S.toList== [48])=true:=by rw [HTL.out,hs0];rfl
     clear hne hhd hs0
    case' neg=>
     have HR:=Lib.hid (HD.out.trans (if_neg (by rw [hhd,HL.out];simp [hne,hu48];omega)))
     have e1:((u.toNat:Int) !=48)=true:=by
      rw [bne_iff_ne]
      intro e
      exact hu48 (UInt8.toNat_inj.1 (by rw [show u.toNat=48 by omega];rfl))
     clear hne hhd hu48
    all_goals
     go_enter Tryz.func53,Tryz.ntmps53
     go_wp2_with (first| (go_at_call 124;refine(A1.out _).mono ?_;rintro e w1 ⟨rfl,rfl⟩) | (go_at_call 26;refine stop_here ?_))
     refine go_on ?_
     refine(must_yes kb vs n _ HX.out hn).mono ?_
     rintro e w2 ⟨rfl,rfl⟩
     go_wp2_with fail
     go_loopw [9,13] (fun nv _ wr=> ∃(j N:Nat),nv= .int .i64 N∧j≤S.size∧N<100000000000∧wr.heap[w2.heap.size]?=some (.stringIter S j)∧Hid (N=digN (S.data.toList.take j))∧Hid ((S.data.toList.take j).all digB=true)∧Hid (Below w2.heap.size w2 wr)) (fun _ _ wr=>S.size - wr.iterPos w2.heap.size)
     case atStart=>exact⟨0,0,rfl,by omega,by omega,by first|exact World.iter_heap w2 S 0|simp [World.iter],Lib.hid rfl,Lib.hid rfl,by first|exact Lib.hid ((Below.refl _ _).alloc (Nat.le_refl _) _)⟩
     case round=>
      obtain⟨j,N,rfl,hj,hN,hk,HN,HA,HB⟩:=hrel
      have hkl2:w2.heap.size<wr.heap.size:=by
       rcases Nat.lt_or_ge w2.heap.size wr.heap.size with h|h
       ·exact h
       ·rw [Array.getElem?_eq_none h] at hk
        cases hk
      by_cases hlt:j<S.size
      ·obtain⟨b,hb⟩: ∃b,b=S[j]'hlt:=⟨_,rfl⟩
       have hbl:S.data.toList[j]?=some b:=by rw [byte_list hlt,hb]
       have hb2:=b.toNat_lt
       have HHI:=Lib.hid (fun h:128≤b.toNat=>decode_high S j hlt (by rw [←hb];exact h))
       clear hb
       by_cases hdg:digB b=true
       ·have hd:48≤b.toNat∧b.toNat≤57:=by
         unfold digB at hdg
         simpa using hdg
        obtain⟨hd1,hd2⟩:=hd
        have HTK:=Lib.hid (dig_take hbl)
        have HA1:=Lib.hid (show(S.data.toList.take (j+1)).all digB=true by rw [HTK.out,List.all_append,HA.out];simp [hdg])
        have HN1:=Lib.hid (show 10*N+(b.toNat - 48)=digN (S.data.toList.take (j+1)) by rw [HTK.out,digN_snoc, ←HN.out])
        have hN1:10*N+(b.toNat - 48) <100000000000:=by
         rw [HN1.out]
         refine Nat.lt_of_lt_of_le (digN_bound _ HA1.out) ?_
         have:(S.data.toList.take (j+1)).length≤11:=by rw [List.length_take];omega
         calc 10^(S.data.toList.take (j+1)).length≤10^11:=Nat.pow_le_pow_right (by omega) this
          _=100000000000:=by decide
        have g1:(48:Int)≤(b.toNat:Int):=by omega
        have g2:(b.toNat:Int)≤57:=by omega
        go_wp2_with (first| (refine wpl_next rfl rfl rfl hk b.toNat (by rw [hbl];simp) (by omega) ?_;intro W1 hk1 hc1 hf1 hs1 hh1 hn1;have HNB:=Lib.hid hn1;clear hh1 hn1) | (go_at_call 26;refine stop_here ?_))
        refine go_on ?_
        refine(must_yes kb vs n _ (HX.out.below (HB.out.trans HNB.out) hkl) hn).mono ?_
        rintro e w3 ⟨rfl,rfl⟩
        go_wp2_with fail
        go_roundw
        case rel=>exact⟨j+1,10*N+(b.toNat - 48),by go_num,by omega,hN1,hk1,HN1,HA1,Lib.hid (HB.out.trans HNB.out)⟩
        case measure=>simp only [World.iterPos,hk1,hk];omega
       ·have hdg:digB b=false:=by simpa using hdg
        have HE:=Lib.hid (HR.out.trans (dig_bad hbl hdg))
        have hd:b.toNat<48∨57<b.toNat:=by
         unfold digB at hdg
         simp only [Bool.and_eq_false_iff,decide_eq_false_iff_not] at hdg
         omega
        by_cases h128:b.toNat<128
        ·rcases hd with hd|hd
         ·have g1: ¬(48:Int)≤(b.toNat:Int):=by omega
          go_wp2_with (first| (refine wpl_next rfl rfl rfl hk b.toNat (by rw [hbl];simp) (by omega) ?_;intro W1 hk1 hc1 hf1 hs1 hh1 hn1;have HNB:=Lib.hid hn1;clear hh1 hn1) | (go_at_call 26;refine stop_here ?_))
          refine go_on ?_
          refine(must_no kb vs n _ (HX.out.below (HB.out.trans HNB.out) hkl) hn).mono ?_
          rintro e w3 ⟨rfl,rfl⟩
          go_wp2_with fail
          exact(show _∧_ from⟨rfl,dpost_none HE.out (HB.out.trans HNB.out)⟩)
         ·have g1:(48:Int)≤(b.toNat:Int):=by omega
          have g2: ¬(b.toNat:Int)≤57:=by omega
          go_wp2_with (first| (refine wpl_next rfl rfl rfl hk b.toNat (by rw [hbl];simp) (by omega) ?_;intro W1 hk1 hc1 hf1 hs1 hh1 hn1;have HNB:=Lib.hid hn1;clear hh1 hn1) | (go_at_call 26;refine stop_here ?_))
          refine go_on ?_
          refine(must_no kb vs n _ (HX.out.below (HB.out.trans HNB.out) hkl) hn).mono ?_
          rintro e w3 ⟨rfl,rfl⟩
          go_wp2_with fail
          exact(show _∧_ from⟨rfl,dpost_none HE.out (HB.out.trans HNB.out)⟩)
        ·obtain⟨r,hdec⟩: ∃r,(Utf8.decode S j).1=r:=⟨_,rfl⟩
         have h1:=(HHI.out (by omega)).1
         rw [hdec] at h1
         have g1:(48:Int)≤(r:Int):=by omega
         have g2: ¬(r:Int)≤57:=by omega
         go_wp2_with (first| (refine wpl_next_any rfl rfl rfl hk hlt ?_;rw [hdec];intro W1 hk1 hc1 hf1 hs1 hh1 hn1;have HNB:=Lib.hid hn1;clear hh1 hn1) | (go_at_call 26;refine stop_here ?_))
         refine go_on ?_
         refine(must_no kb vs n _ (HX.out.below (HB.out.trans HNB.out) hkl) hn).mono ?_
         rintro e w3 ⟨rfl,rfl⟩
         go_wp2_with fail
         exact(show _∧_ from⟨rfl,dpost_none HE.out (HB.out.trans HNB.out)⟩)
      ·obtain rfl:j=S.size:=by omega
       have HT:=Lib.hid (show S.data.toList.take S.size=S.data.toList from List.take_of_length_le (by rw [HSZ.out];exact Nat.le_refl _))
       have HE:=Lib.hid (show digT false S.data.toList lo hi=if lo≤(N:Int)∧(N:Int)≤hi then some (N:Int) else none by
        have hA:=HA.out
        have hNN:=HN.out
        rw [HT.out] at hA hNN
        unfold digT
        rw [if_pos hA,hNN]
        rfl)
       by_cases hv1:lo≤(N:Int)
       ·by_cases hv2:(N:Int)≤hi
        ·have HF:=Lib.hid (HR.out.trans (HE.out.trans (if_pos ⟨hv1,hv2⟩)))
         go_wp2_with (first| (refine wpl_next_end rfl rfl rfl hk (by simp) ?_) | (go_at_call 26;refine stop_here ?_))
         refine go_on ?_
         refine(must_yes kb vs n _ (HX.out.below HB.out hkl) hn).mono ?_
         rintro e w3 ⟨rfl,rfl⟩
         go_wp2_with fail
         go_ret
         exact dpost_some HF.out rfl HB.out
        ·have HF:=Lib.hid (HR.out.trans (HE.out.trans (if_neg (fun h=>hv2 h.2))))
         go_wp2_with (first| (refine wpl_next_end rfl rfl rfl hk (by simp) ?_) | (go_at_call 26;refine stop_here ?_))
         refine go_on ?_
         refine(must_no kb vs n _ (HX.out.below HB.out hkl) hn).mono ?_
         rintro e w3 ⟨rfl,rfl⟩
         go_wp2_with fail
         exact(show _∧_ from⟨rfl,dpost_none HF.out HB.out⟩)
       ·have HF:=Lib.hid (HR.out.trans (HE.out.trans (if_neg (fun h=>hv1 h.1))))
        go_wp2_with (first| (refine wpl_next_end rfl rfl rfl hk (by simp) ?_) | (go_at_call 26;refine stop_here ?_))
        refine go_on ?_
        refine(must_no kb vs n _ (HX.out.below HB.out hkl) hn).mono ?_
        rintro e w3 ⟨rfl,rfl⟩
        go_wp2_with fail
        exact(show _∧_ from⟨rfl,dpost_none HF.out HB.out⟩)
 ·have hSx:s.extract 1 s.size=S:=by simpa using hSd.symm
  clear hSd
  have hs1:1≤s.size:=by
   rcases Nat.eq_zero_or_pos s.size with h0|h0
   ·exfalso
    have e:s.data.toList= []:=List.length_eq_zero_iff.1 (by rw [HL.out];exact h0)
    have:=H1P.out
    rw [e] at this
    revert this
    decide
   ·exact h0
  by_cases h0:S.size=0
  ·have he:=List.length_eq_zero_iff.1 (show S.data.toList.length=0 by rw [HSZ.out];exact h0)
   have HN:=Lib.hid (HD.out.trans (if_pos (.inl he)))
   have e0:S.toList.isEmpty=true:=by rw [HTS.out,he];rfl
   clear he
   go_enter Tryz.func53,Tryz.ntmps53
   go_wp2_with (first| (go_at_call 124;refine(A1.out _).mono ?_;rintro e w1 ⟨rfl,rfl⟩) | (go_at_call 26;refine stop_here ?_))
   refine go_on ?_
   refine(must_no kb vs n _ HX.out hn).mono ?_
   rintro e w2 ⟨rfl,rfl⟩
   go_wp2_with fail
   exact(show _∧_ from⟨rfl,dpost_none HN.out (Below.refl _ _)⟩)
  ·have hpos:0<S.size:=by omega
   have hne:S.data.toList≠ []:=fun e=>by have:=congrArg List.length e;rw [HSZ.out,List.length_nil] at this;omega
   have e0:S.toList.isEmpty=false:=by rw [HTS.out];simpa using hne
   by_cases h11:11<s.size
   ·have HN:=Lib.hid (HD.out.trans (if_pos (.inr (.inl (by rw [HL.out];exact h11)))))
    have h11': ¬(s.size:Int)≤11:=by omega
    clear hne
    go_enter Tryz.func53,Tryz.ntmps53
    go_wp2_with (first| (go_at_call 124;refine(A1.out _).mono ?_;rintro e w1 ⟨rfl,rfl⟩) | (go_at_call 26;refine stop_here ?_))
    refine go_on ?_
    refine(must_no kb vs n _ HX.out hn).mono ?_
    rintro e w2 ⟨rfl,rfl⟩
    go_wp2_with fail
    exact(show _∧_ from⟨rfl,dpost_none HN.out (Below.refl _ _)⟩)
   ·have h11':(s.size:Int)≤11:=by omega
    obtain⟨u,hu⟩: ∃u,S[0]'hpos=u:=⟨_,rfl⟩
    have hhd:S.data.toList.headD 0=u:=by rw [←head_at S hpos,hu]
    by_cases hu48:u=48
    case' pos=>
     subst hu48
     by_cases hs0:s.data.toList= [48]
     case neg=>
      have HN:=Lib.hid (HD.out.trans (if_pos (.inr (.inr ⟨hhd,hs0⟩))))
      have e1:(s.toList== [48])=false:=by rw [HTL.out];simpa using hs0
      clear hne hhd hs0
      go_enter Tryz.func53,Tryz.ntmps53
      go_wp2_with (first| (go_at_call 124;refine(A1.out _).mono ?_;rintro e w1 ⟨rfl,rfl⟩) | (go_at_call 26;refine stop_here ?_))
      refine go_on ?_
      refine(must_no kb vs n _ HX.out hn).mono ?_
      rintro e w2 ⟨rfl,rfl⟩
      go_wp2_with fail
      exact(show _∧_ from⟨rfl,dpost_none HN.out (Below.refl _ _)⟩)
     have HR:=Lib.hid (HD.out.trans (if_neg (by rw [hhd,HL.out];simp [hne,hs0];omega)))
     have e1:(s.toList== [48])=true:=by rw [HTL.out,hs0];rfl
     clear hne hhd hs0
    case' neg=>
     have HR:=Lib.hid (HD.out.trans (if_neg (by rw [hhd,HL.out];simp [hne,hu48];omega)))
     have e1:((u.toNat:Int) !=48)=true:=by
      rw [bne_iff_ne]
      intro e
      exact hu48 (UInt8.toNat_inj.1 (by rw [show u.toNat=48 by omega];rfl))
     clear hne hhd hu48
    all_goals
     go_enter Tryz.func53,Tryz.ntmps53
     go_wp2_with (first| (go_at_call 124;refine(A1.out _).mono ?_;rintro e w1 ⟨rfl,rfl⟩) | (go_at_call 26;refine stop_here ?_))
     refine go_on ?_
     refine(must_yes kb vs n _ HX.out hn).mono ?_
     rintro e w2 ⟨rfl,rfl⟩
     go_wp2_with fail
     go_loopw [9,13] (fun nv _ wr=> ∃(j N:Nat),nv= .int .i64 N∧j≤S.size∧N<100000000000∧wr.heap[w2.heap.size]?=some (.stringIter S j)∧Hid (N=digN (S.data.toList.take j))∧Hid ((S.data.toList.take j).all digB=true)∧Hid (Below w2.heap.size w2 wr)) (fun _ _ wr=>S.size - wr.iterPos w2.heap.size)
     case atStart=>exact⟨0,0,rfl,by omega,by omega,by first|exact World.iter_heap w2 S 0|simp [World.iter],Lib.hid rfl,Lib.hid rfl,by first|exact Lib.hid ((Below.refl _ _).alloc (Nat.le_refl _) _)⟩
     case round=>
      obtain⟨j,N,rfl,hj,hN,hk,HN,HA,HB⟩:=hrel
      have hkl2:w2.heap.size<wr.heap.size:=by
       rcases Nat.lt_or_ge w2.heap.size wr.heap.size with h|h
       ·exact h
       ·rw [Array.getElem?_eq_none h] at hk
        cases hk
      by_cases hlt:j<S.size
      ·obtain⟨b,hb⟩: ∃b,b=S[j]'hlt:=⟨_,rfl⟩
       have hbl:S.data.toList[j]?=some b:=by rw [byte_list hlt,hb]
       have hb2:=b.toNat_lt
       have HHI:=Lib.hid (fun h:128≤b.toNat=>decode_high S j hlt (by rw [←hb];exact h))
       clear hb
       by_cases hdg:digB b=true
       ·have hd:48≤b.toNat∧b.toNat≤57:=by
         unfold digB at hdg
         simpa using hdg
        obtain⟨hd1,hd2⟩:=hd
        have HTK:=Lib.hid (dig_take hbl)
        have HA1:=Lib.hid (show(S.data.toList.take (j+1)).all digB=true by rw [HTK.out,List.all_append,HA.out];simp [hdg])
        have HN1:=Lib.hid (show 10*N+(b.toNat - 48)=digN (S.data.toList.take (j+1)) by rw [HTK.out,digN_snoc, ←HN.out])
        have hN1:10*N+(b.toNat - 48) <100000000000:=by
         rw [HN1.out]
         refine Nat.lt_of_lt_of_le (digN_bound _ HA1.out) ?_
         have:(S.data.toList.take (j+1)).length≤11:=by rw [List.length_take];omega
         calc 10^(S.data.toList.take (j+1)).length≤10^11:=Nat.pow_le_pow_right (by omega) this
          _=100000000000:=by decide
        have g1:(48:Int)≤(b.toNat:Int):=by omega
        have g2:(b.toNat:Int)≤57:=by omega
        go_wp2_with (first| (refine wpl_next rfl rfl rfl hk b.toNat (by rw [hbl];simp) (by omega) ?_;intro W1 hk1 hc1 hf1 hs1 hh1 hn1;have HNB:=Lib.hid hn1;clear hh1 hn1) | (go_at_call 26;refine stop_here ?_))
        refine go_on ?_
        refine(must_yes kb vs n _ (HX.out.below (HB.out.trans HNB.out) hkl) hn).mono ?_
        rintro e w3 ⟨rfl,rfl⟩
        go_wp2_with fail
        go_roundw
        case rel=>exact⟨j+1,10*N+(b.toNat - 48),by go_num,by omega,hN1,hk1,HN1,HA1,Lib.hid (HB.out.trans HNB.out)⟩
        case measure=>simp only [World.iterPos,hk1,hk];omega
       ·have hdg:digB b=false:=by simpa using hdg
        have HE:=Lib.hid (HR.out.trans (dig_bad hbl hdg))
        have hd:b.toNat<48∨57<b.toNat:=by
         unfold digB at hdg
         simp only [Bool.and_eq_false_iff,decide_eq_false_iff_not] at hdg
         omega
        by_cases h128:b.toNat<128
        ·rcases hd with hd|hd
         ·have g1: ¬(48:Int)≤(b.toNat:Int):=by omega
          go_wp2_with (first| (refine wpl_next rfl rfl rfl hk b.toNat (by rw [hbl];simp) (by omega) ?_;intro W1 hk1 hc1 hf1 hs1 hh1 hn1;have HNB:=Lib.hid hn1;clear hh1 hn1) | (go_at_call 26;refine stop_here ?_))
          refine go_on ?_
          refine(must_no kb vs n _ (HX.out.below (HB.out.trans HNB.out) hkl) hn).mono ?_
          rintro e w3 ⟨rfl,rfl⟩
          go_wp2_with fail
          exact(show _∧_ from⟨rfl,dpost_none HE.out (HB.out.trans HNB.out)⟩)
         ·have g1:(48:Int)≤(b.toNat:Int):=by omega
          have g2: ¬(b.toNat:Int)≤57:=by omega
          go_wp2_with (first| (refine wpl_next rfl rfl rfl hk b.toNat (by rw [hbl];simp) (by omega) ?_;intro W1 hk1 hc1 hf1 hs1 hh1 hn1;have HNB:=Lib.hid hn1;clear hh1 hn1) | (go_at_call 26;refine stop_here ?_))
          refine go_on ?_
          refine(must_no kb vs n _ (HX.out.below (HB.out.trans HNB.out) hkl) hn).mono ?_
          rintro e w3 ⟨rfl,rfl⟩
          go_wp2_with fail
          exact(show _∧_ from⟨rfl,dpost_none HE.out (HB.out.trans HNB.out)⟩)
        ·obtain⟨r,hdec⟩: ∃r,(Utf8.decode S j).1=r:=⟨_,rfl⟩
         have h1:=(HHI.out (by omega)).1
         rw [hdec] at h1
         have g1:(48:Int)≤(r:Int):=by omega
         have g2: ¬(r:Int)≤57:=by omega
         go_wp2_with (first| (refine wpl_next_any rfl rfl rfl hk hlt ?_;rw [hdec];intro W1 hk1 hc1 hf1 hs1 hh1 hn1;have HNB:=Lib.hid hn1;clear hh1 hn1) | (go_at_call 26;refine stop_here ?_))
         refine go_on ?_
         refine(must_no kb vs n _ (HX.out.below (HB.out.trans HNB.out) hkl) hn).mono ?_
         rintro e w3 ⟨rfl,rfl⟩
         go_wp2_with fail
         exact(show _∧_ from⟨rfl,dpost_none HE.out (HB.out.trans HNB.out)⟩)
      ·obtain rfl:j=S.size:=by omega
       have HT:=Lib.hid (show S.data.toList.take S.size=S.data.toList from List.take_of_length_le (by rw [HSZ.out];exact Nat.le_refl _))
       have HE:=Lib.hid (show digT true S.data.toList lo hi=if lo≤(-(N:Int))∧(-(N:Int))≤hi then some (-(N:Int)) else none by
        have hA:=HA.out
        have hNN:=HN.out
        rw [HT.out] at hA hNN
        unfold digT
        rw [if_pos hA,hNN]
        rfl)
       by_cases hv1:lo≤(-(N:Int))
       ·by_cases hv2:(-(N:Int))≤hi
        ·have HF:=Lib.hid (HR.out.trans (HE.out.trans (if_pos ⟨hv1,hv2⟩)))
         go_wp2_with (first| (refine wpl_next_end rfl rfl rfl hk (by simp) ?_) | (go_at_call 26;refine stop_here ?_))
         refine go_on ?_
         refine(must_yes kb vs n _ (HX.out.below HB.out hkl) hn).mono ?_
         rintro e w3 ⟨rfl,rfl⟩
         go_wp2_with fail
         go_ret
         exact dpost_some HF.out rfl HB.out
        ·have HF:=Lib.hid (HR.out.trans (HE.out.trans (if_neg (fun h=>hv2 h.2))))
         go_wp2_with (first| (refine wpl_next_end rfl rfl rfl hk (by simp) ?_) | (go_at_call 26;refine stop_here ?_))
         refine go_on ?_
         refine(must_no kb vs n _ (HX.out.below HB.out hkl) hn).mono ?_
         rintro e w3 ⟨rfl,rfl⟩
         go_wp2_with fail
         exact(show _∧_ from⟨rfl,dpost_none HF.out HB.out⟩)
       ·have HF:=Lib.hid (HR.out.trans (HE.out.trans (if_neg (fun h=>hv1 h.1))))
        go_wp2_with (first| (refine wpl_next_end rfl rfl rfl hk (by simp) ?_) | (go_at_call 26;refine stop_here ?_))
        refine go_on ?_
        refine(must_no kb vs n _ (HX.out.below HB.out hkl) hn).mono ?_
        rintro e w3 ⟨rfl,rfl⟩
        go_wp2_with fail
        exact(show _∧_ from⟨rfl,dpost_none HF.out HB.out⟩)
theorem OpenC.keep {cs:List Nat} {w w':World} {ρ ρ':Nat→Nat} {B:Nat} {v:Value} {m:Option AsM} (h:OpenC w ρ B v m) (k:Chg cs w ρ w' ρ') (hc: ∀c,8≤c→c≤12→c∉cs):OpenC w' ρ' B v m:=by
 cases m with
 |none=>exact h
 |some m=>
  obtain⟨xb,U,h1,h2⟩:=h
  exact⟨xb,U,h1,h2.keep k hc⟩
def LPost (cs:List Nat) (w:World) (ρ:Nat→Nat) (B kb line:Nat) (p:Option AsK) (e:Ending) (w':World):Prop:=
 match p with
 |some σ'=>e= .returned (.tuple #[])∧ ∃(ρ':Nat→Nat) (V':MkV),MkC w' ρ' B kb σ' V'∧OpenC w' ρ' B V'.mv σ'.m∧Chg cs w ρ w' ρ'
 |none=>e=wrongE line∧Below B w w'
theorem lpost_none {cs:List Nat} {w w':World} {ρ:Nat→Nat} {B kb line:Nat} {p:Option AsK} (hp:p=none) (hb:Below B w w'):LPost cs w ρ B kb line p (wrongE line) w':=by
 subst hp
 exact⟨rfl,hb⟩
theorem lpost_some {cs:List Nat} {w w':World} {ρ ρ':Nat→Nat} {B kb line:Nat} {p:Option AsK} {σ':AsK} {V':MkV} {e:Ending} (hp:p=some σ') (he:e= .returned (.tuple #[])) (h1:MkC w' ρ' B kb σ' V') (h2:OpenC w' ρ' B V'.mv σ'.m) (h3:Chg cs w ρ w' ρ'):LPost cs w ρ B kb line p e w':=by
 subst hp
 exact⟨he,ρ',V',h1,h2,h3⟩
theorem object_any (ρ:Nat→Nat) (B kb:Nat) (σ:AsK) (V:MkV) (w:World) (h:MkC w ρ B kb σ V) (hl:σ.c.pool.length≤999000):
  Calls Tryz.prog 27 #[.pointer (some ⟨kb,0,none⟩)] w fun e w'=>e= .returned (.tuple #[])∧ ∃(ρ':Nat→Nat) (pv':Value),MkC w' ρ' B kb σ.object { V with pv:=pv' }∧Chg [1,2,3] w ρ w' ρ':=by
 have H:=Lib.hid h
 have c10:=h.box.cell 10 rfl
 clear h
 by_cases hp:σ.part=1
 ·have HO:=Lib.hid (show σ.object={ (σ.cls objectS).2 with c:={ (σ.cls objectS).2.c with sup:=(σ.cls objectS).1 },part:=2 } by unfold AsK.object;rw [if_pos hp])
  rw [hp] at c10
  clear hp
  go_enter Tryz.func27,Tryz.ntmps27
  go_wp2_with (go_at_call 56;refine(acls_any ρ B kb σ V objectS _ H.out (by decide) (by omega)).mono ?_;refine stop_here ?_)
  refine go_on ?_
  rintro e w1 ⟨rfl,ρ1,pv1,hm,hg⟩
  have H1:=Lib.hid hm
  have G1:=Lib.hid hg
  have d5:=hm.box.cell 5 rfl
  have z5:=hm.box.frozen 5
  have d10:=hm.box.cell 10 rfl
  have z10:=hm.box.frozen 10
  clear hm hg c10
  go_wp2_with fail
  have H2:=Lib.hid (H1.out.setc 5 (.int .i64 (σ.cls objectS).1) (σ':={ (σ.cls objectS).2 with c:={ (σ.cls objectS).2.c with sup:=(σ.cls objectS).1 } }) (V':={ V with pv:=pv1 }) rfl rfl rfl rfl rfl ⟨rfl,rfl,rfl,rfl,rfl⟩)
  have H3:=Lib.hid (H2.out.1.setc 10 (.int .i64 2) (σ':={ (σ.cls objectS).2 with c:={ (σ.cls objectS).2.c with sup:=(σ.cls objectS).1 },part:=2 }) (V':={ V with pv:=pv1 }) rfl rfl rfl rfl rfl ⟨rfl,rfl,rfl,rfl,rfl⟩)
  refine⟨rfl, .tuple #[],by simp [results,Tryz.results27],rfl,ρ1,pv1, ?_, ?_⟩
  ·rw [HO.out]
   exact H3.out.1
  ·exact G1.out.trans ((H2.out.2.trans H3.out.2).mono (by simp))
 ·have HO:=Lib.hid (show σ.object=σ by unfold AsK.object;rw [if_neg hp])
  have hp':((σ.part:Int)==1)=false:=by rw [beq_eq_false_iff_ne];omega
  clear hp
  go_enter Tryz.func27,Tryz.ntmps27
  go_wp2_with fail
  refine⟨rfl, .tuple #[],by simp [results,Tryz.results27],rfl,ρ,V.pv, ?_,Chg.refl _ _ _⟩
  rw [HO.out]
  exact H.out
end Go.Proofs.YtlcidkiplidamaaGreatDoor
