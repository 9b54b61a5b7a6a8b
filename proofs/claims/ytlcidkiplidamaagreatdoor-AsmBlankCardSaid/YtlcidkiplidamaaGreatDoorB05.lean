/-
  What the laws rest on, part 5: walks of the program's functions and plain laws. Conditions: none but those that each theorem names.
-/
import Derived.Test.YtlcidkiplidamaaGreatDoorB04
import Derived.Test.YtlcidkiplidamaaGreatDoorB01
import Derived.Test.YtlcidkiplidamaaGreatDoorB02
import Derived.Lib.SmallJoins
set_option linter.unusedSimpArgs false
set_option linter.unusedVariables false
set_option maxRecDepth 100000
set_option maxHeartbeats 1000000
namespace Go.Proofs.YtlcidkiplidamaaGreatDoor
open Go Go.RowKit Lib
def FromIs (s:ByteArray) (j:Nat) (cur:List UInt8) (f:Int):Prop:=(cur= []∧f= -1)∨(cur≠ []∧ ∃n:Nat,f=n∧n<j∧cur=(s.data.toList.drop n).take (j - n))
theorem fromIs_more {s:ByteArray} {j n:Nat} {cur:List UInt8} {f:Int} (h:FromIs s j cur f) (hn:0<n) (hj:j+n≤s.size):FromIs s (j+n) (cur++(s.data.toList.drop j).take n) (if f<0 then(j:Int) else f):=by
 have hl:s.data.toList.length=s.size:=Array.length_toList
 have hne:(s.data.toList.drop j).take n≠ []:=by
  intro e
  have:=congrArg List.length e
  rw [List.length_take,List.length_drop,hl] at this
  simp at this
  omega
 rcases h with⟨rfl,rfl⟩ | ⟨h1,m,rfl,h2,h3⟩
 ·refine .inr ⟨by simpa using hne,j,by simp,by omega, ?_⟩
  rw [List.nil_append,show j+n - j=n by omega]
 ·refine .inr ⟨by simp [h1],m,by rw [if_neg (by omega)],by omega, ?_⟩
  rw [h3,show j+n - m=(j - m)+n by omega,List.take_add,List.drop_drop,show m+(j - m)=j by omega]
theorem fromIs_one {s:ByteArray} {j:Nat} {cur:List UInt8} {f:Int} {b:UInt8} (h:FromIs s j cur f) (hb:s.data.toList[j]?=some b):FromIs s (j+1) (cur++ [b]) (if f<0 then(j:Int) else f):=by
 have hl:s.data.toList.length=s.size:=Array.length_toList
 have hlt:=(List.getElem?_eq_some_iff.1 hb).1
 have h1:=fromIs_more (n:=1) h (by omega) (by omega)
 rw [List.drop_eq_getElem_cons hlt,(List.getElem?_eq_some_iff.1 hb).2] at h1
 exact h1
def strL (L:List (List UInt8)):List Value:=L.map fun x=>Value.string ⟨x.toArray⟩
theorem words_blank {s:ByteArray} {j:Nat} {b:UInt8} {cur:List UInt8} (hb:s.data.toList[j]?=some b) (h:blankB b=true):aWordsGo (s.data.toList.drop j) cur=(if cur= [] then [] else [cur])++aWordsGo (s.data.toList.drop (j+1)) []:=by
 have hlt:=(List.getElem?_eq_some_iff.1 hb).1
 rw [List.drop_eq_getElem_cons hlt,(List.getElem?_eq_some_iff.1 hb).2,aWordsGo,h]
 simp only [if_true]
 split<;>rfl
theorem words_letter {s:ByteArray} {j:Nat} {b:UInt8} {cur:List UInt8} (hb:s.data.toList[j]?=some b) (h:blankB b=false):aWordsGo (s.data.toList.drop j) cur=aWordsGo (s.data.toList.drop (j+1)) (cur++ [b]):=by
 have hlt:=(List.getElem?_eq_some_iff.1 hb).1
 rw [List.drop_eq_getElem_cons hlt,(List.getElem?_eq_some_iff.1 hb).2,aWordsGo,h]
 simp
theorem words_any (s:ByteArray) (w:World) (hm:s.size≤1000000):
  Calls Tryz.prog 23 #[.string s] w fun e w'=> ∃v,e= .returned v∧Below w.heap.size w w'∧w'.ownsRow w.heap.size 9 1 v (aWords s).length ((aWords s).map Value.string):=by
 have hl:s.data.toList.length=s.size:=Array.length_toList
 go_enter Tryz.func23,Tryz.ntmps23
 go_wp2_with fail
 go_loopw [3,4,5,6,7] (fun lv fv _ _ _ wr=> ∃(j:Nat) (L:List (List UInt8)) (cur:List UInt8) (f:Int),j≤s.size∧fv= .int .i64 f∧wr.heap[w.heap.size]?=some (.stringIter s j)∧L.length≤j∧Hid (wr.ownsRow (w.heap.size+1) 9 1 lv L.length (strL L))∧Hid (FromIs s j cur f)∧Hid (L++aWordsGo (s.data.toList.drop j) cur=aWordsGo s.data.toList [])∧Hid (Below w.heap.size w wr)) (fun _ _ _ _ _ wr=>s.size - wr.iterPos w.heap.size)
 case atStart=>exact⟨0, [], [], -1,by omega,rfl,by first|exact World.iter_heap w s 0|simp [World.iter],by simp,Lib.hid (World.ownsRow_nil _ _ _ _),Lib.hid (.inl ⟨rfl,rfl⟩),Lib.hid (by simp),by first|exact Lib.hid ((Below.refl _ _).alloc (Nat.le_refl _) _)⟩
 case round=>
  obtain⟨j,L,cur,f,hj,rfl,hk,hLj,HO,HF,HW,HB⟩:=hrel
  have hkl:w.heap.size<wr.heap.size:=by
   rcases Nat.lt_or_ge w.heap.size wr.heap.size with h|h
   ·exact h
   ·rw [Array.getElem?_eq_none h] at hk
    cases hk
  have hip:wr.iterPos w.heap.size=j:=by unfold World.iterPos;rw [hk]
  by_cases hlt:j<s.size
  ·obtain⟨b,hb⟩: ∃b,b=s[j]'hlt:=⟨_,rfl⟩
   have hbl:s.data.toList[j]?=some b:=by rw [byte_list hlt,hb]
   have hb2:=b.toNat_lt
   have HHI:=Lib.hid (fun h:128≤b.toNat=>decode_high s j hlt (by rw [←hb];exact h))
   have HSP:=Lib.hid (fun h:128≤b.toNat=>decode_span s j hlt (by rw [←hb];exact h))
   have HWH:=Lib.hid (fun h:128≤b.toNat=>words_high s j hlt (by rw [←hb];exact h) cur)
   clear hb
   by_cases h128:b.toNat<128
   ·by_cases hbk:blankB b=true
    ·have hb32:b=32∨b=9:=by
      unfold blankB at hbk
      simpa using hbk
     have HWB:=Lib.hid (words_blank (cur:=cur) hbl hbk)
     rcases HF.out with⟨hc,hf⟩ | ⟨hc,n,hf,hnj,hcur⟩
     ·subst hc
      subst hf
      rcases hb32 with rfl|rfl
      ·go_wp2_with (refine wpl_next rfl rfl rfl hk 32 (by rw [hbl];rfl) (by omega) ?_;intro W1 hk1 hc1 hf1 hs1 hh1 hn1;have HH:=Lib.hid hh1;clear hh1)
       go_roundw
       case rel=>exact⟨j+1,L, [], -1,by omega,rfl,hk1,by omega,Lib.hid (own_heap HO.out fun q hq=>HH.out q (by have:=(HO.out.lt q hq).1;omega)),Lib.hid (.inl ⟨rfl,rfl⟩),Lib.hid (HW.out▸(by rw [HWB.out];rfl)),Lib.hid (HB.out.trans hn1.out)⟩
       case measure=>simp only [World.iterPos,hk1,hk];omega
      ·go_wp2_with (refine wpl_next rfl rfl rfl hk 9 (by rw [hbl];rfl) (by omega) ?_;intro W1 hk1 hc1 hf1 hs1 hh1 hn1;have HH:=Lib.hid hh1;clear hh1)
       go_roundw
       case rel=>exact⟨j+1,L, [], -1,by omega,rfl,hk1,by omega,Lib.hid (own_heap HO.out fun q hq=>HH.out q (by have:=(HO.out.lt q hq).1;omega)),Lib.hid (.inl ⟨rfl,rfl⟩),Lib.hid (HW.out▸(by rw [HWB.out];rfl)),Lib.hid (HB.out.trans hn1.out)⟩
       case measure=>simp only [World.iterPos,hk1,hk];omega
     ·have HEX:=Lib.hid (show s.extract n j=⟨cur.toArray⟩ from ByteArray.ext (Array.toList_inj.1 (by rw [extract_list,hcur])))
      subst hf
      clear hcur
      have hnn: ¬(n:Int) <0:=by omega
      have hnj2:(n:Int)≤(j:Int):=by omega
      have hjs:(j:Int)≤(s.size:Int):=by omega
      rcases hb32 with rfl|rfl
      ·go_wp2_with (first| (refine wpl_next rfl rfl rfl hk 32 (by rw [hbl];rfl) (by omega) ?_;intro W1 hk1 hc1 hf1 hs1 hh1 hn1;have HH:=Lib.hid hh1;have HN:=Lib.hid hn1;clear hh1 hn1) | (at_builtin;refine stop_here ?_))
       refine go_on ?_
       refine wpl_append rfl _ _ 43 rfl Tryz.underlying43 info_string rfl (by omega) (w.heap.size+1) rfl ((own_heap HO.out fun q hq=>HH.out q (by have:=(HO.out.lt q hq).1;omega)).alloc _) rfl rfl (cells_new_at _ _ _ _ (by first|rfl|omega| (simp<;>omega))) (by simp [Value.oneCell']) (by simp only [maxLen];omega) (by omega) (by first|rfl|omega| (simp<;>omega)) ?_
       intro v' W2 ho hg hb2
       have hz2:=hg.size
       simp only [World.size_alloc] at hz2
       have HI2:=Lib.hid ((hg.block w.heap.size (by simp;omega) (fun e=>by have:=(HO.out.lt _ e.symm).1;omega)).trans ((Below.heap_alloc _ _ _ (by omega)).trans hk1))
       have HO2:=Lib.hid ho
       have HB2:=Lib.hid (HB.out.trans (((HN.out.mono (Nat.le_refl _)).alloc (by omega) _).trans (hb2.mono (by omega))))
       clear ho hg hb2
       go_wp2_with fail
       go_roundw
       case rel=>exact⟨j+1,L++ [cur], [], -1,by omega,rfl,HI2.out,by simp;omega,Lib.hid (own_eq HO2.out (by simp) (by rw [HEX.out];simp [strL])),Lib.hid (.inl ⟨rfl,rfl⟩),Lib.hid (HW.out▸(by rw [HWB.out,if_neg hc];simp)),HB2⟩
       case measure=>have hk2:=HI2.out;simp only [World.iterPos,hk2,hk];omega
      ·go_wp2_with (first| (refine wpl_next rfl rfl rfl hk 9 (by rw [hbl];rfl) (by omega) ?_;intro W1 hk1 hc1 hf1 hs1 hh1 hn1;have HH:=Lib.hid hh1;have HN:=Lib.hid hn1;clear hh1 hn1) | (at_builtin;refine stop_here ?_))
       refine go_on ?_
       refine wpl_append rfl _ _ 43 rfl Tryz.underlying43 info_string rfl (by omega) (w.heap.size+1) rfl ((own_heap HO.out fun q hq=>HH.out q (by have:=(HO.out.lt q hq).1;omega)).alloc _) rfl rfl (cells_new_at _ _ _ _ (by first|rfl|omega| (simp<;>omega))) (by simp [Value.oneCell']) (by simp only [maxLen];omega) (by omega) (by first|rfl|omega| (simp<;>omega)) ?_
       intro v' W2 ho hg hb2
       have hz2:=hg.size
       simp only [World.size_alloc] at hz2
       have HI2:=Lib.hid ((hg.block w.heap.size (by simp;omega) (fun e=>by have:=(HO.out.lt _ e.symm).1;omega)).trans ((Below.heap_alloc _ _ _ (by omega)).trans hk1))
       have HO2:=Lib.hid ho
       have HB2:=Lib.hid (HB.out.trans (((HN.out.mono (Nat.le_refl _)).alloc (by omega) _).trans (hb2.mono (by omega))))
       clear ho hg hb2
       go_wp2_with fail
       go_roundw
       case rel=>exact⟨j+1,L++ [cur], [], -1,by omega,rfl,HI2.out,by simp;omega,Lib.hid (own_eq HO2.out (by simp) (by rw [HEX.out];simp [strL])),Lib.hid (.inl ⟨rfl,rfl⟩),Lib.hid (HW.out▸(by rw [HWB.out,if_neg hc];simp)),HB2⟩
       case measure=>have hk2:=HI2.out;simp only [World.iterPos,hk2,hk];omega
    ·have hbk:blankB b=false:=by simpa using hbk
     have hq:((b.toNat:Int)==32)=false∧((b.toNat:Int)==9)=false:=by
      unfold blankB at hbk
      simp only [Bool.or_eq_false_iff,beq_eq_false_iff_ne] at hbk
      constructor
      ·rw [beq_eq_false_iff_ne];intro e;exact hbk.1 (UInt8.toNat_inj.1 (by rw [show b.toNat=32 by omega];rfl))
      ·rw [beq_eq_false_iff_ne];intro e;exact hbk.2 (UInt8.toNat_inj.1 (by rw [show b.toNat=9 by omega];rfl))
     obtain⟨hq1,hq2⟩:=hq
     have HWB:=Lib.hid (words_letter (cur:=cur) hbl hbk)
     have HF1:=Lib.hid (fromIs_one HF.out hbl)
     rcases HF.out with⟨hc,hf⟩ | ⟨hc,n,hf,hnj,hcur⟩
     ·subst hf
      go_wp2_with (refine wpl_next rfl rfl rfl hk b.toNat (by rw [hbl];simp) h128 ?_;intro W1 hk1 hc1 hf1 hs1 hh1 hn1;have HH:=Lib.hid hh1;have HN:=Lib.hid hn1;clear hh1 hn1)
      go_roundw
      case rel=>exact⟨j+1,L,cur++ [b],j,by omega,rfl,hk1,by omega,Lib.hid (own_heap HO.out fun q hq=>HH.out q (by have:=(HO.out.lt q hq).1;omega)),HF1,Lib.hid (HW.out▸(by rw [HWB.out])),Lib.hid (HB.out.trans HN.out)⟩
      case measure=>simp only [World.iterPos,hk1,hk];omega
     ·subst hf
      clear hcur
      have hnn: ¬(n:Int) <0:=by omega
      go_wp2_with (refine wpl_next rfl rfl rfl hk b.toNat (by rw [hbl];simp) h128 ?_;intro W1 hk1 hc1 hf1 hs1 hh1 hn1;have HH:=Lib.hid hh1;have HN:=Lib.hid hn1;clear hh1 hn1)
      go_roundw
      case rel=>exact⟨j+1,L,cur++ [b],n,by omega,rfl,hk1,by omega,Lib.hid (own_heap HO.out fun q hq=>HH.out q (by have:=(HO.out.lt q hq).1;omega)),Lib.hid (by have h:=HF1.out;rw [if_neg hnn] at h;exact h),Lib.hid (HW.out▸(by rw [HWB.out])),Lib.hid (HB.out.trans HN.out)⟩
      case measure=>simp only [World.iterPos,hk1,hk];omega
   ·have hge:128≤b.toNat:=by omega
    obtain⟨r,hdec⟩: ∃r,(Utf8.decode s j).1=r:=⟨_,rfl⟩
    obtain⟨m,hdec2⟩: ∃m,(Utf8.decode s j).2=m:=⟨_,rfl⟩
    have h1:=HHI.out hge
    have h2:=(HSP.out hge).1
    have HWB:=Lib.hid (HWH.out hge)
    rw [hdec2] at HWB h1 h2
    rw [hdec] at h1
    have HF1:=Lib.hid (fromIs_more (n:=m) HF.out (by omega) (by omega))
    have hq1:((r:Int)==32)=false:=by rw [beq_eq_false_iff_ne];omega
    have hq2:((r:Int)==9)=false:=by rw [beq_eq_false_iff_ne];omega
    rcases HF.out with⟨hc,hf⟩ | ⟨hc,n,hf,hnj,hcur⟩
    ·subst hf
     go_wp2_with (refine wpl_next_any rfl rfl rfl hk hlt ?_;rw [hdec,hdec2];intro W1 hk1 hc1 hf1 hs1 hh1 hn1;have HH:=Lib.hid hh1;have HN:=Lib.hid hn1;clear hh1 hn1)
     go_roundw
     case rel=>exact⟨j+m,L,cur++(s.data.toList.drop j).take m,j,by omega,rfl,hk1,by omega,Lib.hid (own_heap HO.out fun q hq=>HH.out q (by have:=(HO.out.lt q hq).1;omega)),HF1,Lib.hid (HW.out▸(by rw [HWB.out])),Lib.hid (HB.out.trans HN.out)⟩
     case measure=>simp only [World.iterPos,hk1,hk];omega
    ·subst hf
     clear hcur
     have hnn: ¬(n:Int) <0:=by omega
     go_wp2_with (refine wpl_next_any rfl rfl rfl hk hlt ?_;rw [hdec,hdec2];intro W1 hk1 hc1 hf1 hs1 hh1 hn1;have HH:=Lib.hid hh1;have HN:=Lib.hid hn1;clear hh1 hn1)
     go_roundw
     case rel=>exact⟨j+m,L,cur++(s.data.toList.drop j).take m,n,by omega,rfl,hk1,by omega,Lib.hid (own_heap HO.out fun q hq=>HH.out q (by have:=(HO.out.lt q hq).1;omega)),Lib.hid (by have h:=HF1.out;rw [if_neg hnn] at h;exact h),Lib.hid (HW.out▸(by rw [HWB.out])),Lib.hid (HB.out.trans HN.out)⟩
     case measure=>simp only [World.iterPos,hk1,hk];omega
  ·obtain rfl:j=s.size:=by omega
   have HWE:=Lib.hid (show aWordsGo s.data.toList []=L++(if cur= [] then [] else [cur]) by rw [←HW.out,List.drop_of_length_le (by rw [hl];exact Nat.le_refl _),aWordsGo])
   have HAW:=Lib.hid (fun(L':List (List UInt8)) (h:aWordsGo s.data.toList []=L')=> (show(aWords s).map Value.string=strL L'∧(aWords s).length=L'.length by
    unfold aWords strL
    rw [h,List.map_map,List.length_map]
    exact⟨rfl,rfl⟩))
   rcases HF.out with⟨hc,hf⟩ | ⟨hc,n,hf,hnj,hcur⟩
   ·subst hf
    subst hc
    have HAL:=Lib.hid (HAW.out L (by rw [HWE.out];simp))
    go_wp2_with (refine wpl_next_end rfl rfl rfl hk (by simp) ?_)
    go_ret
    exact⟨_,rfl,HB.out,own_eq (Go.Joins.ownsRow_le HO.out (by omega)) HAL.out.2.symm HAL.out.1.symm⟩
   ·have HEX:=Lib.hid (show s.extract n s.size=⟨cur.toArray⟩ from ByteArray.ext (Array.toList_inj.1 (by rw [extract_list,hcur])))
    have HAL:=Lib.hid (HAW.out (L++ [cur]) (by rw [HWE.out,if_neg hc]))
    subst hf
    clear hcur
    have hnn: ¬(n:Int) <0:=by omega
    have hnj2:(n:Int)≤(s.size:Int):=by omega
    go_wp2_with (first| (refine wpl_next_end rfl rfl rfl hk (by simp) ?_) | (at_builtin;refine stop_here ?_))
    refine go_on ?_
    refine wpl_append rfl _ _ 43 rfl Tryz.underlying43 info_string rfl (by omega) (w.heap.size+1) rfl (HO.out.alloc _) rfl rfl (cells_new_at _ _ _ _ (by first|rfl|omega| (simp<;>omega))) (by simp [Value.oneCell']) (by simp only [maxLen];omega) (by omega) (by first|rfl|omega| (simp<;>omega)) ?_
    intro v' W2 ho hg hb2
    have hz2:=hg.size
    simp only [World.size_alloc] at hz2
    have HO2:=Lib.hid ho
    have HB2:=Lib.hid (HB.out.trans (((Below.refl w.heap.size _).alloc (by omega) _).trans (hb2.mono (by omega))))
    clear ho hg hb2
    go_wp2_with fail
    go_ret
    exact⟨_,rfl,HB2.out,own_eq (Go.Joins.ownsRow_le HO2.out (by omega)) (by rw [HAL.out.2];simp) (by rw [HAL.out.1,HEX.out];simp [strL])⟩
end Go.Proofs.YtlcidkiplidamaaGreatDoor
namespace Go.Proofs.YtlcidkiplidamaaGreatDoor
open Go Go.RowKit Lib Go.Maps
def DPost (w:World) (n:Nat) (p:Option Int) (e:Ending) (w':World):Prop:=Below w.heap.size w w'∧match p with|some v=>e= .returned (.int .i64 v) |none=>e=wrongE n
theorem dpost_none {w w':World} {n:Nat} {p:Option Int} (hp:p=none) (hb:Below w.heap.size w w'):DPost w n p (wrongE n) w':=by
 subst hp
 exact⟨hb,rfl⟩
theorem dpost_some {w w':World} {n:Nat} {v:Int} {p:Option Int} {e:Ending} (hp:p=some v) (he:e= .returned (.int .i64 v)) (hb:Below w.heap.size w w'):DPost w n p e w':=by
 subst hp
 exact⟨hb,he⟩
def digT (neg:Bool) (s:List UInt8) (lo hi:Int):Option Int:=
 if s.all digB then
  let v:Int:=if neg then -(digN s:Int) else digN s
  if lo≤v∧v≤hi then some v else none
 else none
theorem digits_head (w:List UInt8) (lo hi:Int):aDigits w lo hi=
  if(if Lib.hasPrefix w [45] then w.drop 1 else w)= []∨11<w.length∨((if Lib.hasPrefix w [45] then w.drop 1 else w).headD 0=48∧w≠ [48]) then none else digT (Lib.hasPrefix w [45]) (if Lib.hasPrefix w [45] then w.drop 1 else w) lo hi:=rfl
theorem digN_snoc (l:List UInt8) (b:UInt8):digN (l++ [b])=10*digN l+(b.toNat - 48):=by
 unfold digN
 rw [List.foldl_append]
 rfl
theorem digN_bound (l:List UInt8) (h:l.all digB=true):digN l<10^l.length:=by
 have key: ∀(l:List UInt8) (a:Nat),l.all digB=true→l.foldl (fun n c=>10*n+(c.toNat - 48)) a< (a+1)*10^l.length:=by
  intro l
  induction l with
  |nil=>intro a _;simp
  |cons b l ih=>
   intro a h
   rw [List.all_cons,Bool.and_eq_true] at h
   have hb:=h.1
   unfold digB at hb
   simp only [Bool.and_eq_true,decide_eq_true_eq] at hb
   have:=ih (10*a+(b.toNat - 48)) h.2
   rw [List.foldl_cons,List.length_cons,Nat.pow_succ]
   refine Nat.lt_of_lt_of_le this ?_
   have h2:10*a+(b.toNat - 48)+1≤(a+1)*10:=by omega
   calc (10*a+(b.toNat - 48)+1)*10^l.length≤((a+1)*10)*10^l.length:=Nat.mul_le_mul_right _ h2
    _=(a+1)*(10^l.length*10):=by rw [Nat.mul_assoc,Nat.mul_comm 10]
 have:=key l 0 h
 simpa [digN] using this
theorem dig_take {S:List UInt8} {j:Nat} {b:UInt8} (hb:S[j]?=some b):S.take (j+1)=S.take j++ [b]:=by
 obtain⟨hlt,e⟩:=List.getElem?_eq_some_iff.1 hb
 rw [List.take_succ_eq_append_getElem hlt,e]
theorem dig_bad {S:List UInt8} {neg:Bool} {lo hi:Int} {j:Nat} {b:UInt8} (hb:S[j]?=some b) (h:digB b=false):digT neg S lo hi=none:=by
 unfold digT
 rw [if_neg]
 rw [Bool.not_eq_true,List.all_eq_false]
 exact⟨b,List.mem_of_getElem? hb,by simp [h]⟩
theorem adigits_any (kb:Nat) (vs:List Value) (n:Nat) (s:ByteArray) (lo hi:Int) (w:World) (hb:Bx w kb vs 67) (hn:vs[11]?=some (.int .i64 n)) (hz:s.size≤65536) (h64: -9223372036854775808≤lo∧hi≤9223372036854775807):
  Calls Tryz.prog 53 #[.pointer (some ⟨kb,0,none⟩), .string s, .int .i64 lo, .int .i64 hi] w (DPost w n (aDigits s.data.toList lo hi)):=by
 have HX:=Lib.hid hb
 have hkl:=hb.lt
 clear hb
 have hl:s.data.toList.length=s.size:=Array.length_toList
 have HL:=Lib.hid hl
 clear hl
 have HD:=Lib.hid (digits_head s.data.toList lo hi)
 obtain⟨H1,h1⟩: ∃H,H=Lib.hasPrefix s.data.toList [45]:=⟨_,rfl⟩
 have A1:=Lib.hid (fun W=> (show Calls Tryz.prog 124 #[.string s, .string ⟨#[45]⟩] W fun e w'=>e= .returned (.bool H1)∧w'=W by rw [h1];exact Tryz.strings_HasPrefix s ⟨#[45]⟩ W))
 rw [←h1] at HD
 have H1P:=Lib.hid h1
 clear h1
 obtain⟨S,hSd⟩: ∃S:ByteArray,S=if H1 then s.extract 1 s.size else s:=⟨_,rfl⟩
 have HSL:=Lib.hid (show S.data.toList=if H1 then s.data.toList.drop 1 else s.data.toList by
  rw [hSd]
  split
  ·rw [extract_list,List.take_of_length_le (by rw [List.length_drop,HL.out];omega)]
  ·rfl)
 rw [←HSL.out] at HD
 have HSZ:=Lib.hid (show S.data.toList.length=S.size from Array.length_toList)
 have HTL:=Lib.hid (show s.toList=s.data.toList from ByteArray.toList_eq _)
 have HTS:=Lib.hid (show S.toList=S.data.toList from ByteArray.toList_eq _)
 have hSs:S.size≤s.size:=by
  rw [hSd]
  split
  ·simp
  ·exact Nat.le_refl _
 cases H1
 ·obtain rfl:S=s:=by simpa using hSd
  clear hSd
  by_cases h0:S.size=0
  ·have he:=List.length_eq_zero_iff.1 (show S.data.toList.length=0 by rw [HSZ.out];exact h0)
   have HN:=Lib.hid (HD.out.trans (if_pos (.inl he)))
   have e0:S.toList.isEmpty=true:=by rw [HTS.out,he];rfl
   clear he
   go_enter Tryz.func53,Tryz.ntmps53
   go_wp2_with (first| (go_at_call 124;refine(A1.out _).mono ?_;rintro e w1 ⟨rfl,rfl⟩) | (go_at_call 26;refine stop_here ?_))
   refine go_on ?_
   refine(must_no kb vs n _ HX.out hn).mono ?_
   rintro e w2 ⟨rfl,rfl⟩
   go_wp2_with fail
   exact(show _∧_ from⟨rfl,dpost_none HN.out (Below.refl _ _)⟩)
  ·have hpos:0<S.size:=by omega
   have hne:S.data.toList≠ []:=fun e=>by have:=congrArg List.length e;rw [HSZ.out,List.length_nil] at this;omega
   have e0:S.toList.isEmpty=false:=by rw [HTS.out];simpa using hne
   by_cases h11:11<S.size
   ·have HN:=Lib.hid (HD.out.trans (if_pos (.inr (.inl (by rw [HL.out];exact h11)))))
    have h11': ¬(S.size:Int)≤11:=by omega
    clear hne
    go_enter Tryz.func53,Tryz.ntmps53
    go_wp2_with (first| (go_at_call 124;refine(A1.out _).mono ?_;rintro e w1 ⟨rfl,rfl⟩) | (go_at_call 26;refine stop_here ?_))
    refine go_on ?_
    refine(must_no kb vs n _ HX.out hn).mono ?_
    rintro e w2 ⟨rfl,rfl⟩
    go_wp2_with fail
    exact(show _∧_ from⟨rfl,dpost_none HN.out (Below.refl _ _)⟩)
   ·have h11':(S.size:Int)≤11:=by omega
    obtain⟨u,hu⟩: ∃u,S[0]'hpos=u:=⟨_,rfl⟩
    have hhd:S.data.toList.headD 0=u:=by rw [←head_at S hpos,hu]
    by_cases hu48:u=48
    ·subst hu48
     by_cases hs0:S.data.toList= [48]
     ·have HR:=Lib.hid (HD.out.trans (if_neg (by rw [hhd,HL.out];simp [hne,hs0];omega)))
      have e1:(S.toList== [48])=true:=by rw [HTL.out,hs0];rfl
      clear hne hhd hs0
      go_enter Tryz.func53,Tryz.ntmps53
      go_wp2_with (first| (go_at_call 124;refine(A1.out _).mono ?_;rintro e w1 ⟨rfl,rfl⟩) | (go_at_call 26;refine stop_here ?_))
      refine go_on ?_
      refine(must_yes kb vs n _ HX.out hn).mono ?_
      rintro e w2 ⟨rfl,rfl⟩
      go_wp2_with fail
      go_loopw [9,13] (fun nv _ wr=> ∃(j N:Nat),nv= .int .i64 N∧j≤S.size∧N<100000000000∧wr.heap[w2.heap.size]?=some (.stringIter S j)∧Hid (N=digN (S.data.toList.take j))∧Hid ((S.data.toList.take j).all digB=true)∧Hid (Below w2.heap.size w2 wr)) (fun _ _ wr=>S.size - wr.iterPos w2.heap.size)
      case atStart=>exact⟨0,0,rfl,by omega,by omega,by first|exact World.iter_heap w2 S 0|simp [World.iter],Lib.hid rfl,Lib.hid rfl,by first|exact Lib.hid ((Below.refl _ _).alloc (Nat.le_refl _) _)⟩
      case round=>
       obtain⟨j,N,rfl,hj,hN,hk,HN,HA,HB⟩:=hrel
       have hkl2:w2.heap.size<wr.heap.size:=by
        rcases Nat.lt_or_ge w2.heap.size wr.heap.size with h|h
        ·exact h
        ·rw [Array.getElem?_eq_none h] at hk
         cases hk
       by_cases hlt:j<S.size
       ·obtain⟨b,hb⟩: ∃b,b=S[j]'hlt:=⟨_,rfl⟩
        have hbl:S.data.toList[j]?=some b:=by rw [byte_list hlt,hb]
        have hb2:=b.toNat_lt
        have HHI:=Lib.hid (fun h:128≤b.toNat=>decode_high S j hlt (by rw [←hb];exact h))
        clear hb
        by_cases hdg:digB b=true
        ·have hd:48≤b.toNat∧b.toNat≤57:=by
          unfold digB at hdg
          simpa using hdg
         obtain⟨hd1,hd2⟩:=hd
         have HTK:=Lib.hid (dig_take hbl)
         have HA1:=Lib.hid (show(S.data.toList.take (j+1)).all digB=true by rw [HTK.out,List.all_append,HA.out];simp [hdg])
         have HN1:=Lib.hid (show 10*N+(b.toNat - 48)=digN (S.data.toList.take (j+1)) by rw [HTK.out,digN_snoc, ←HN.out])
         have hN1:10*N+(b.toNat - 48) <100000000000:=by
          rw [HN1.out]
          refine Nat.lt_of_lt_of_le (digN_bound _ HA1.out) ?_
          have:(S.data.toList.take (j+1)).length≤11:=by rw [List.length_take];omega
          calc 10^(S.data.toList.take (j+1)).length≤10^11:=Nat.pow_le_pow_right (by omega) this
           _=100000000000:=by decide
         have g1:(48:Int)≤(b.toNat:Int):=by omega
         have g2:(b.toNat:Int)≤57:=by omega
         go_wp2_with (first| (refine wpl_next rfl rfl rfl hk b.toNat (by rw [hbl];simp) (by omega) ?_;intro W1 hk1 hc1 hf1 hs1 hh1 hn1;have HNB:=Lib.hid hn1;clear hh1 hn1) | (go_at_call 26;refine stop_here ?_))
         refine go_on ?_
         refine(must_yes kb vs n _ (HX.out.below (HB.out.trans HNB.out) hkl) hn).mono ?_
         rintro e w3 ⟨rfl,rfl⟩
         go_wp2_with fail
         go_roundw
         case rel=>exact⟨j+1,10*N+(b.toNat - 48),by go_num,by omega,hN1,hk1,HN1,HA1,Lib.hid (HB.out.trans HNB.out)⟩
         case measure=>simp only [World.iterPos,hk1,hk];omega
        ·have hdg:digB b=false:=by simpa using hdg
         have HE:=Lib.hid (HR.out.trans (dig_bad hbl hdg))
         have hd:b.toNat<48∨57<b.toNat:=by
          unfold digB at hdg
          simp only [Bool.and_eq_false_iff,decide_eq_false_iff_not] at hdg
          omega
         by_cases h128:b.toNat<128
         ·rcases hd with hd|hd
          ·have g1: ¬(48:Int)≤(b.toNat:Int):=by omega
           go_wp2_with (first| (refine wpl_next rfl rfl rfl hk b.toNat (by rw [hbl];simp) (by omega) ?_;intro W1 hk1 hc1 hf1 hs1 hh1 hn1;have HNB:=Lib.hid hn1;clear hh1 hn1) | (go_at_call 26;refine stop_here ?_))
           refine go_on ?_
           refine(must_no kb vs n _ (HX.out.below (HB.out.trans HNB.out) hkl) hn).mono ?_
           rintro e w3 ⟨rfl,rfl⟩
           go_wp2_with fail
           exact(show _∧_ from⟨rfl,dpost_none HE.out (HB.out.trans HNB.out)⟩)
          ·have g1:(48:Int)≤(b.toNat:Int):=by omega
           have g2: ¬(b.toNat:Int)≤57:=by omega
           go_wp2_with (first| (refine wpl_next rfl rfl rfl hk b.toNat (by rw [hbl];simp) (by omega) ?_;intro W1 hk1 hc1 hf1 hs1 hh1 hn1;have HNB:=Lib.hid hn1;clear hh1 hn1) | (go_at_call 26;refine stop_here ?_))
           refine go_on ?_
           refine(must_no kb vs n _ (HX.out.below (HB.out.trans HNB.out) hkl) hn).mono ?_
           rintro e w3 ⟨rfl,rfl⟩
           go_wp2_with fail
           exact(show _∧_ from⟨rfl,dpost_none HE.out (HB.out.trans HNB.out)⟩)
         ·obtain⟨r,hdec⟩: ∃r,(Utf8.decode S j).1=r:=⟨_,rfl⟩
          have h1:=(HHI.out (by omega)).1
          rw [hdec] at h1
          have g1:(48:Int)≤(r:Int):=by omega
          have g2: ¬(r:Int)≤57:=by omega
          go_wp2_with (first| (refine wpl_next_any rfl rfl rfl hk hlt ?_;rw [hdec];intro W1 hk1 hc1 hf1 hs1 hh1 hn1;have HNB:=Lib.hid hn1;clear hh1 hn1) | (go_at_call 26;refine stop_here ?_))
          refine go_on ?_
          refine(must_no kb vs n _ (HX.out.below (HB.out.trans HNB.out) hkl) hn).mono ?_
          rintro e w3 ⟨rfl,rfl⟩
          go_wp2_with fail
          exact(show _∧_ from⟨rfl,dpost_none HE.out (HB.out.trans HNB.out)⟩)
       ·obtain rfl:j=S.size:=by omega
        have HT:=Lib.hid (show S.data.toList.take S.size=S.data.toList from List.take_of_length_le (by rw [HSZ.out];exact Nat.le_refl _))
        have HE:=Lib.hid (show digT false S.data.toList lo hi=if lo≤(N:Int)∧(N:Int)≤hi then some (N:Int) else none by
         have hA:=HA.out
         have hNN:=HN.out
         rw [HT.out] at hA hNN
         unfold digT
         rw [if_pos hA,hNN]
         rfl)
        by_cases hv1:lo≤(N:Int)
        ·by_cases hv2:(N:Int)≤hi
         ·have HF:=Lib.hid (HR.out.trans (HE.out.trans (if_pos ⟨hv1,hv2⟩)))
          go_wp2_with (first| (refine wpl_next_end rfl rfl rfl hk (by simp) ?_) | (go_at_call 26;refine stop_here ?_))
          refine go_on ?_
          refine(must_yes kb vs n _ (HX.out.below HB.out hkl) hn).mono ?_
          rintro e w3 ⟨rfl,rfl⟩
          go_wp2_with fail
          go_ret
          exact dpost_some HF.out rfl HB.out
         ·have HF:=Lib.hid (HR.out.trans (HE.out.trans (if_neg (fun h=>hv2 h.2))))
          go_wp2_with (first| (refine wpl_next_end rfl rfl rfl hk (by simp) ?_) | (go_at_call 26;refine stop_here ?_))
          refine go_on ?_
          refine(must_no kb vs n _ (HX.out.below HB.out hkl) hn).mono ?_
          rintro e w3 ⟨rfl,rfl⟩
          go_wp2_with fail
          exact(show _∧_ from⟨rfl,dpost_none HF.out HB.out⟩)
        ·have HF:=Lib.hid (HR.out.trans (HE.out.trans (if_neg (fun h=>hv1 h.1))))
         go_wp2_with (first| (refine wpl_next_end rfl rfl rfl hk (by simp) ?_) | (go_at_call 26;refine stop_here ?_))
         refine go_on ?_
         refine(must_no kb vs n _ (HX.out.below HB.out hkl) hn).mono ?_
         rintro e w3 ⟨rfl,rfl⟩
         go_wp2_with fail
         exact(show _∧_ from⟨rfl,dpost_none HF.out HB.out⟩)
     ·have HN:=Lib.hid (HD.out.trans (if_pos (.inr (.inr ⟨hhd,hs0⟩))))
      have e1:(S.toList== [48])=false:=by rw [HTL.out];simpa using hs0
      clear hne hhd hs0
      go_enter Tryz.func53,Tryz.ntmps53
      go_wp2_with (first| (go_at_call 124;refine(A1.out _).mono ?_;rintro e w1 ⟨rfl,rfl⟩) | (go_at_call 26;refine stop_here ?_))
      refine go_on ?_
      refine(must_no kb vs n _ HX.out hn).mono ?_
      rintro e w2 ⟨rfl,rfl⟩
      go_wp2_with fail
      exact(show _∧_ from⟨rfl,dpost_none HN.out (Below.refl _ _)⟩)
    ·have HR:=Lib.hid (HD.out.trans (if_neg (by rw [hhd,HL.out];simp [hne,hu48];omega)))
     have e1:((u.toNat:Int) !=48)=true:=by
      rw [bne_iff_ne]
      intro e
      exact hu48 (UInt8.toNat_inj.1 (by rw [show u.toNat=48 by omega];rfl))
     clear hne hhd hu48
     go_enter Tryz.func53,Tryz.ntmps53
     go_wp2_with (first| (go_at_call 124;refine(A1.out _).mono ?_;rintro e w1 ⟨rfl,rfl⟩) | (go_at_call 26;refine stop_here ?_))
     refine go_on ?_
     refine(must_yes kb vs n _ HX.out hn).mono ?_
     rintro e w2 ⟨rfl,rfl⟩
     go_wp2_with fail
     go_loopw [9,13] (fun nv _ wr=> ∃(j N:Nat),nv= .int .i64 N∧j≤S.size∧N<100000000000∧wr.heap[w2.heap.size]?=some (.stringIter S j)∧Hid (N=digN (S.data.toList.take j))∧Hid ((S.data.toList.take j).all digB=true)∧Hid (Below w2.heap.size w2 wr)) (fun _ _ wr=>S.size - wr.iterPos w2.heap.size)
     case atStart=>exact⟨0,0,rfl,by omega,by omega,by first|exact World.iter_heap w2 S 0|simp [World.iter],Lib.hid rfl,Lib.hid rfl,by first|exact Lib.hid ((Below.refl _ _).alloc (Nat.le_refl _) _)⟩
     case round=>
      obtain⟨j,N,rfl,hj,hN,hk,HN,HA,HB⟩:=hrel
      have hkl2:w2.heap.size<wr.heap.size:=by
       rcases Nat.lt_or_ge w2.heap.size wr.heap.size with h|h
       ·exact h
       ·rw [Array.getElem?_eq_none h] at hk
        cases hk
      by_cases hlt:j<S.size
      ·obtain⟨b,hb⟩: ∃b,b=S[j]'hlt:=⟨_,rfl⟩
       have hbl:S.data.toList[j]?=some b:=by rw [byte_list hlt,hb]
       have hb2:=b.toNat_lt
       have HHI:=Lib.hid (fun h:128≤b.toNat=>decode_high S j hlt (by rw [←hb];exact h))
       clear hb
       by_cases hdg:digB b=true
       ·have hd:48≤b.toNat∧b.toNat≤57:=by
         unfold digB at hdg
         simpa using hdg
        obtain⟨hd1,hd2⟩:=hd
        have HTK:=Lib.hid (dig_take hbl)
        have HA1:=Lib.hid (show(S.data.toList.take (j+1)).all digB=true by rw [HTK.out,List.all_append,HA.out];simp [hdg])
        have HN1:=Lib.hid (show 10*N+(b.toNat - 48)=digN (S.data.toList.take (j+1)) by rw [HTK.out,digN_snoc, ←HN.out])
        have hN1:10*N+(b.toNat - 48) <100000000000:=by
         rw [HN1.out]
         refine Nat.lt_of_lt_of_le (digN_bound _ HA1.out) ?_
         have:(S.data.toList.take (j+1)).length≤11:=by rw [List.length_take];omega
         calc 10^(S.data.toList.take (j+1)).length≤10^11:=Nat.pow_le_pow_right (by omega) this
          _=100000000000:=by decide
        have g1:(48:Int)≤(b.toNat:Int):=by omega
        have g2:(b.toNat:Int)≤57:=by omega
        go_wp2_with (first| (refine wpl_next rfl rfl rfl hk b.toNat (by rw [hbl];simp) (by omega) ?_;intro W1 hk1 hc1 hf1 hs1 hh1 hn1;have HNB:=Lib.hid hn1;clear hh1 hn1) | (go_at_call 26;refine stop_here ?_))
        refine go_on ?_
        refine(must_yes kb vs n _ (HX.out.below (HB.out.trans HNB.out) hkl) hn).mono ?_
        rintro e w3 ⟨rfl,rfl⟩
        go_wp2_with fail
        go_roundw
        case rel=>exact⟨j+1,10*N+(b.toNat - 48),by go_num,by omega,hN1,hk1,HN1,HA1,Lib.hid (HB.out.trans HNB.out)⟩
        case measure=>simp only [World.iterPos,hk1,hk];omega
       ·have hdg:digB b=false:=by simpa using hdg
        have HE:=Lib.hid (HR.out.trans (dig_bad hbl hdg))
        have hd:b.toNat<48∨57<b.toNat:=by
         unfold digB at hdg
         simp only [Bool.and_eq_false_iff,decide_eq_false_iff_not] at hdg
         omega
        by_cases h128:b.toNat<128
        ·rcases hd with hd|hd
         ·have g1: ¬(48:Int)≤(b.toNat:Int):=by omega
          go_wp2_with (first| (refine wpl_next rfl rfl rfl hk b.toNat (by rw [hbl];simp) (by omega) ?_;intro W1 hk1 hc1 hf1 hs1 hh1 hn1;have HNB:=Lib.hid hn1;clear hh1 hn1) | (go_at_call 26;refine stop_here ?_))
          refine go_on ?_
          refine(must_no kb vs n _ (HX.out.below (HB.out.trans HNB.out) hkl) hn).mono ?_
          rintro e w3 ⟨rfl,rfl⟩
          go_wp2_with fail
          exact(show _∧_ from⟨rfl,dpost_none HE.out (HB.out.trans HNB.out)⟩)
         ·have g1:(48:Int)≤(b.toNat:Int):=by omega
          have g2: ¬(b.toNat:Int)≤57:=by omega
          go_wp2_with (first| (refine wpl_next rfl rfl rfl hk b.toNat (by rw [hbl];simp) (by omega) ?_;intro W1 hk1 hc1 hf1 hs1 hh1 hn1;have HNB:=Lib.hid hn1;clear hh1 hn1) | (go_at_call 26;refine stop_here ?_))
          refine go_on ?_
          refine(must_no kb vs n _ (HX.out.below (HB.out.trans HNB.out) hkl) hn).mono ?_
          rintro e w3 ⟨rfl,rfl⟩
          go_wp2_with fail
          exact(show _∧_ from⟨rfl,dpost_none HE.out (HB.out.trans HNB.out)⟩)
        ·obtain⟨r,hdec⟩: ∃r,(Utf8.decode S j).1=r:=⟨_,rfl⟩
         have h1:=(HHI.out (by omega)).1
         rw [hdec] at h1
         have g1:(48:Int)≤(r:Int):=by omega
         have g2: ¬(r:Int)≤57:=by omega
         go_wp2_with (first| (refine wpl_next_any rfl rfl rfl hk hlt ?_;rw [hdec];intro W1 hk1 hc1 hf1 hs1 hh1 hn1;have HNB:=Lib.hid hn1;clear hh1 hn1) | (go_at_call 26;refine stop_here ?_))
         refine go_on ?_
         refine(must_no kb vs n _ (HX.out.below (HB.out.trans HNB.out) hkl) hn).mono ?_
         rintro e w3 ⟨rfl,rfl⟩
         go_wp2_with fail
         exact(show _∧_ from⟨rfl,dpost_none HE.out (HB.out.trans HNB.out)⟩)
      ·obtain rfl:j=S.size:=by omega
       have HT:=Lib.hid (show S.data.toList.take S.size=S.data.toList from List.take_of_length_le (by rw [HSZ.out];exact Nat.le_refl _))
       have HE:=Lib.hid (show digT false S.data.toList lo hi=if lo≤(N:Int)∧(N:Int)≤hi then some (N:Int) else none by
        have hA:=HA.out
        have hNN:=HN.out
        rw [HT.out] at hA hNN
        unfold digT
        rw [if_pos hA,hNN]
        rfl)
       by_cases hv1:lo≤(N:Int)
       ·by_cases hv2:(N:Int)≤hi
        ·have HF:=Lib.hid (HR.out.trans (HE.out.trans (if_pos ⟨hv1,hv2⟩)))
         go_wp2_with (first| (refine wpl_next_end rfl rfl rfl hk (by simp) ?_) | (go_at_call 26;refine stop_here ?_))
         refine go_on ?_
         refine(must_yes kb vs n _ (HX.out.below HB.out hkl) hn).mono ?_
         rintro e w3 ⟨rfl,rfl⟩
         go_wp2_with fail
         go_ret
         exact dpost_some HF.out rfl HB.out
        ·have HF:=Lib.hid (HR.out.trans (HE.out.trans (if_neg (fun h=>hv2 h.2))))
         go_wp2_with (first| (refine wpl_next_end rfl rfl rfl hk (by simp) ?_) | (go_at_call 26;refine stop_here ?_))
         refine go_on ?_
         refine(must_no kb vs n _ (HX.out.below HB.out hkl) hn).mono ?_
         rintro e w3 ⟨rfl,rfl⟩
         go_wp2_with fail
         exact(show _∧_ from⟨rfl,dpost_none HF.out HB.out⟩)
       ·have HF:=Lib.hid (HR.out.trans (HE.out.trans (if_neg (fun h=>hv1 h.1))))
        go_wp2_with (first| (refine wpl_next_end rfl rfl rfl hk (by simp) ?_) | (go_at_call 26;refine stop_here ?_))
        refine go_on ?_
        refine(must_no kb vs n _ (HX.out.below HB.out hkl) hn).mono ?_
        rintro e w3 ⟨rfl,rfl⟩
        go_wp2_with fail
        exact(show _∧_ from⟨rfl,dpost_none HF.out HB.out⟩)
 ·have hSx:s.extract 1 s.size=S:=by simpa using hSd.symm
  clear hSd
  have hs1:1≤s.size:=by
   rcases Nat.eq_zero_or_pos s.size with h0|h0
   ·exfalso
    have e:s.data.toList= []:=List.length_eq_zero_iff.1 (by rw [HL.out];exact h0)
    have:=H1P.out
    rw [e] at this
    revert this
    decide
   ·exact h0
  by_cases h0:S.size=0
  ·have he:=List.length_eq_zero_iff.1 (show S.data.toList.length=0 by rw [HSZ.out];exact h0)
   have HN:=Lib.hid (HD.out.trans (if_pos (.inl he)))
   have e0:S.toList.isEmpty=true:=by rw [HTS.out,he];rfl
   clear he
   go_enter Tryz.func53,Tryz.ntmps53
   go_wp2_with (first| (go_at_call 124;refine(A1.out _).mono ?_;rintro e w1 ⟨rfl,rfl⟩) | (go_at_call 26;refine stop_here ?_))
   refine go_on ?_
   refine(must_no kb vs n _ HX.out hn).mono ?_
   rintro e w2 ⟨rfl,rfl⟩
   go_wp2_with fail
   exact(show _∧_ from⟨rfl,dpost_none HN.out (Below.refl _ _)⟩)
  ·have hpos:0<S.size:=by omega
   have hne:S.data.toList≠ []:=fun e=>by have:=congrArg List.length e;rw [HSZ.out,List.length_nil] at this;omega
   have e0:S.toList.isEmpty=false:=by rw [HTS.out];simpa using hne
   by_cases h11:11<s.size
   ·have HN:=Lib.hid (HD.out.trans (if_pos (.inr (.inl (by rw [HL.out];exact h11)))))
    have h11': ¬(s.size:Int)≤11:=by omega
    clear hne
    go_enter Tryz.func53,Tryz.ntmps53
    go_wp2_with (first| (go_at_call 124;refine(A1.out _).mono ?_;rintro e w1 ⟨rfl,rfl⟩) | (go_at_call 26;refine stop_here ?_))
    refine go_on ?_
    refine(must_no kb vs n _ HX.out hn).mono ?_
    rintro e w2 ⟨rfl,rfl⟩
    go_wp2_with fail
    exact(show _∧_ from⟨rfl,dpost_none HN.out (Below.refl _ _)⟩)
   ·have h11':(s.size:Int)≤11:=by omega
    obtain⟨u,hu⟩: ∃u,S[0]'hpos=u:=⟨_,rfl⟩
    have hhd:S.data.toList.headD 0=u:=by rw [←head_at S hpos,hu]
    by_cases hu48:u=48
    ·subst hu48
     by_cases hs0:s.data.toList= [48]
     ·have HR:=Lib.hid (HD.out.trans (if_neg (by rw [hhd,HL.out];simp [hne,hs0];omega)))
      have e1:(s.toList== [48])=true:=by rw [HTL.out,hs0];rfl
      clear hne hhd hs0
      go_enter Tryz.func53,Tryz.ntmps53
      go_wp2_with (first| (go_at_call 124;refine(A1.out _).mono ?_;rintro e w1 ⟨rfl,rfl⟩) | (go_at_call 26;refine stop_here ?_))
      refine go_on ?_
      refine(must_yes kb vs n _ HX.out hn).mono ?_
      rintro e w2 ⟨rfl,rfl⟩
      go_wp2_with fail
      go_loopw [9,13] (fun nv _ wr=> ∃(j N:Nat),nv= .int .i64 N∧j≤S.size∧N<100000000000∧wr.heap[w2.heap.size]?=some (.stringIter S j)∧Hid (N=digN (S.data.toList.take j))∧Hid ((S.data.toList.take j).all digB=true)∧Hid (Below w2.heap.size w2 wr)) (fun _ _ wr=>S.size - wr.iterPos w2.heap.size)
      case atStart=>exact⟨0,0,rfl,by omega,by omega,by first|exact World.iter_heap w2 S 0|simp [World.iter],Lib.hid rfl,Lib.hid rfl,by first|exact Lib.hid ((Below.refl _ _).alloc (Nat.le_refl _) _)⟩
      case round=>
       obtain⟨j,N,rfl,hj,hN,hk,HN,HA,HB⟩:=hrel
       have hkl2:w2.heap.size<wr.heap.size:=by
        rcases Nat.lt_or_ge w2.heap.size wr.heap.size with h|h
        ·exact h
        ·rw [Array.getElem?_eq_none h] at hk
         cases hk
       by_cases hlt:j<S.size
       ·obtain⟨b,hb⟩: ∃b,b=S[j]'hlt:=⟨_,rfl⟩
        have hbl:S.data.toList[j]?=some b:=by rw [byte_list hlt,hb]
        have hb2:=b.toNat_lt
        have HHI:=Lib.hid (fun h:128≤b.toNat=>decode_high S j hlt (by rw [←hb];exact h))
        clear hb
        by_cases hdg:digB b=true
        ·have hd:48≤b.toNat∧b.toNat≤57:=by
          unfold digB at hdg
          simpa using hdg
         obtain⟨hd1,hd2⟩:=hd
         have HTK:=Lib.hid (dig_take hbl)
         have HA1:=Lib.hid (show(S.data.toList.take (j+1)).all digB=true by rw [HTK.out,List.all_append,HA.out];simp [hdg])
         have HN1:=Lib.hid (show 10*N+(b.toNat - 48)=digN (S.data.toList.take (j+1)) by rw [HTK.out,digN_snoc, ←HN.out])
         have hN1:10*N+(b.toNat - 48) <100000000000:=by
          rw [HN1.out]
          refine Nat.lt_of_lt_of_le (digN_bound _ HA1.out) ?_
          have:(S.data.toList.take (j+1)).length≤11:=by rw [List.length_take];omega
          calc 10^(S.data.toList.take (j+1)).length≤10^11:=Nat.pow_le_pow_right (by omega) this
           _=100000000000:=by decide
         have g1:(48:Int)≤(b.toNat:Int):=by omega
         have g2:(b.toNat:Int)≤57:=by omega
         go_wp2_with (first| (refine wpl_next rfl rfl rfl hk b.toNat (by rw [hbl];simp) (by omega) ?_;intro W1 hk1 hc1 hf1 hs1 hh1 hn1;have HNB:=Lib.hid hn1;clear hh1 hn1) | (go_at_call 26;refine stop_here ?_))
         refine go_on ?_
         refine(must_yes kb vs n _ (HX.out.below (HB.out.trans HNB.out) hkl) hn).mono ?_
         rintro e w3 ⟨rfl,rfl⟩
         go_wp2_with fail
         go_roundw
         case rel=>exact⟨j+1,10*N+(b.toNat - 48),by go_num,by omega,hN1,hk1,HN1,HA1,Lib.hid (HB.out.trans HNB.out)⟩
         case measure=>simp only [World.iterPos,hk1,hk];omega
        ·have hdg:digB b=false:=by simpa using hdg
         have HE:=Lib.hid (HR.out.trans (dig_bad hbl hdg))
         have hd:b.toNat<48∨57<b.toNat:=by
          unfold digB at hdg
          simp only [Bool.and_eq_false_iff,decide_eq_false_iff_not] at hdg
          omega
         by_cases h128:b.toNat<128
         ·rcases hd with hd|hd
          ·have g1: ¬(48:Int)≤(b.toNat:Int):=by omega
           go_wp2_with (first| (refine wpl_next rfl rfl rfl hk b.toNat (by rw [hbl];simp) (by omega) ?_;intro W1 hk1 hc1 hf1 hs1 hh1 hn1;have HNB:=Lib.hid hn1;clear hh1 hn1) | (go_at_call 26;refine stop_here ?_))
           refine go_on ?_
           refine(must_no kb vs n _ (HX.out.below (HB.out.trans HNB.out) hkl) hn).mono ?_
           rintro e w3 ⟨rfl,rfl⟩
           go_wp2_with fail
           exact(show _∧_ from⟨rfl,dpost_none HE.out (HB.out.trans HNB.out)⟩)
          ·have g1:(48:Int)≤(b.toNat:Int):=by omega
           have g2: ¬(b.toNat:Int)≤57:=by omega
           go_wp2_with (first| (refine wpl_next rfl rfl rfl hk b.toNat (by rw [hbl];simp) (by omega) ?_;intro W1 hk1 hc1 hf1 hs1 hh1 hn1;have HNB:=Lib.hid hn1;clear hh1 hn1) | (go_at_call 26;refine stop_here ?_))
           refine go_on ?_
           refine(must_no kb vs n _ (HX.out.below (HB.out.trans HNB.out) hkl) hn).mono ?_
           rintro e w3 ⟨rfl,rfl⟩
           go_wp2_with fail
           exact(show _∧_ from⟨rfl,dpost_none HE.out (HB.out.trans HNB.out)⟩)
         ·obtain⟨r,hdec⟩: ∃r,(Utf8.decode S j).1=r:=⟨_,rfl⟩
          have h1:=(HHI.out (by omega)).1
          rw [hdec] at h1
          have g1:(48:Int)≤(r:Int):=by omega
          have g2: ¬(r:Int)≤57:=by omega
          go_wp2_with (first| (refine wpl_next_any rfl rfl rfl hk hlt ?_;rw [hdec];intro W1 hk1 hc1 hf1 hs1 hh1 hn1;have HNB:=Lib.hid hn1;clear hh1 hn1) | (go_at_call 26;refine stop_here ?_))
          refine go_on ?_
          refine(must_no kb vs n _ (HX.out.below (HB.out.trans HNB.out) hkl) hn).mono ?_
          rintro e w3 ⟨rfl,rfl⟩
          go_wp2_with fail
          exact(show _∧_ from⟨rfl,dpost_none HE.out (HB.out.trans HNB.out)⟩)
       ·obtain rfl:j=S.size:=by omega
        have HT:=Lib.hid (show S.data.toList.take S.size=S.data.toList from List.take_of_length_le (by rw [HSZ.out];exact Nat.le_refl _))
        have HE:=Lib.hid (show digT true S.data.toList lo hi=if lo≤(-(N:Int))∧(-(N:Int))≤hi then some (-(N:Int)) else none by
         have hA:=HA.out
         have hNN:=HN.out
         rw [HT.out] at hA hNN
         unfold digT
         rw [if_pos hA,hNN]
         rfl)
        by_cases hv1:lo≤(-(N:Int))
        ·by_cases hv2:(-(N:Int))≤hi
         ·have HF:=Lib.hid (HR.out.trans (HE.out.trans (if_pos ⟨hv1,hv2⟩)))
          go_wp2_with (first| (refine wpl_next_end rfl rfl rfl hk (by simp) ?_) | (go_at_call 26;refine stop_here ?_))
          refine go_on ?_
          refine(must_yes kb vs n _ (HX.out.below HB.out hkl) hn).mono ?_
          rintro e w3 ⟨rfl,rfl⟩
          go_wp2_with fail
          go_ret
          exact dpost_some HF.out rfl HB.out
         ·have HF:=Lib.hid (HR.out.trans (HE.out.trans (if_neg (fun h=>hv2 h.2))))
          go_wp2_with (first| (refine wpl_next_end rfl rfl rfl hk (by simp) ?_) | (go_at_call 26;refine stop_here ?_))
          refine go_on ?_
          refine(must_no kb vs n _ (HX.out.below HB.out hkl) hn).mono ?_
          rintro e w3 ⟨rfl,rfl⟩
          go_wp2_with fail
          exact(show _∧_ from⟨rfl,dpost_none HF.out HB.out⟩)
        ·have HF:=Lib.hid (HR.out.trans (HE.out.trans (if_neg (fun h=>hv1 h.1))))
         go_wp2_with (first| (refine wpl_next_end rfl rfl rfl hk (by simp) ?_) | (go_at_call 26;refine stop_here ?_))
         refine go_on ?_
         refine(must_no kb vs n _ (HX.out.below HB.out hkl) hn).mono ?_
         rintro e w3 ⟨rfl,rfl⟩
         go_wp2_with fail
         exact(show _∧_ from⟨rfl,dpost_none HF.out HB.out⟩)
     ·have HN:=Lib.hid (HD.out.trans (if_pos (.inr (.inr ⟨hhd,hs0⟩))))
      have e1:(s.toList== [48])=false:=by rw [HTL.out];simpa using hs0
      clear hne hhd hs0
      go_enter Tryz.func53,Tryz.ntmps53
      go_wp2_with (first| (go_at_call 124;refine(A1.out _).mono ?_;rintro e w1 ⟨rfl,rfl⟩) | (go_at_call 26;refine stop_here ?_))
      refine go_on ?_
      refine(must_no kb vs n _ HX.out hn).mono ?_
      rintro e w2 ⟨rfl,rfl⟩
      go_wp2_with fail
      exact(show _∧_ from⟨rfl,dpost_none HN.out (Below.refl _ _)⟩)
    ·have HR:=Lib.hid (HD.out.trans (if_neg (by rw [hhd,HL.out];simp [hne,hu48];omega)))
     have e1:((u.toNat:Int) !=48)=true:=by
      rw [bne_iff_ne]
      intro e
      exact hu48 (UInt8.toNat_inj.1 (by rw [show u.toNat=48 by omega];rfl))
     clear hne hhd hu48
     go_enter Tryz.func53,Tryz.ntmps53
     go_wp2_with (first| (go_at_call 124;refine(A1.out _).mono ?_;rintro e w1 ⟨rfl,rfl⟩) | (go_at_call 26;refine stop_here ?_))
     refine go_on ?_
     refine(must_yes kb vs n _ HX.out hn).mono ?_
     rintro e w2 ⟨rfl,rfl⟩
     go_wp2_with fail
     go_loopw [9,13] (fun nv _ wr=> ∃(j N:Nat),nv= .int .i64 N∧j≤S.size∧N<100000000000∧wr.heap[w2.heap.size]?=some (.stringIter S j)∧Hid (N=digN (S.data.toList.take j))∧Hid ((S.data.toList.take j).all digB=true)∧Hid (Below w2.heap.size w2 wr)) (fun _ _ wr=>S.size - wr.iterPos w2.heap.size)
     case atStart=>exact⟨0,0,rfl,by omega,by omega,by first|exact World.iter_heap w2 S 0|simp [World.iter],Lib.hid rfl,Lib.hid rfl,by first|exact Lib.hid ((Below.refl _ _).alloc (Nat.le_refl _) _)⟩
     case round=>
      obtain⟨j,N,rfl,hj,hN,hk,HN,HA,HB⟩:=hrel
      have hkl2:w2.heap.size<wr.heap.size:=by
       rcases Nat.lt_or_ge w2.heap.size wr.heap.size with h|h
       ·exact h
       ·rw [Array.getElem?_eq_none h] at hk
        cases hk
      by_cases hlt:j<S.size
      ·obtain⟨b,hb⟩: ∃b,b=S[j]'hlt:=⟨_,rfl⟩
       have hbl:S.data.toList[j]?=some b:=by rw [byte_list hlt,hb]
       have hb2:=b.toNat_lt
       have HHI:=Lib.hid (fun h:128≤b.toNat=>decode_high S j hlt (by rw [←hb];exact h))
       clear hb
       by_cases hdg:digB b=true
       ·have hd:48≤b.toNat∧b.toNat≤57:=by
         unfold digB at hdg
         simpa using hdg
        obtain⟨hd1,hd2⟩:=hd
        have HTK:=Lib.hid (dig_take hbl)
        have HA1:=Lib.hid (show(S.data.toList.take (j+1)).all digB=true by rw [HTK.out,List.all_append,HA.out];simp [hdg])
        have HN1:=Lib.hid (show 10*N+(b.toNat - 48)=digN (S.data.toList.take (j+1)) by rw [HTK.out,digN_snoc, ←HN.out])
        have hN1:10*N+(b.toNat - 48) <100000000000:=by
         rw [HN1.out]
         refine Nat.lt_of_lt_of_le (digN_bound _ HA1.out) ?_
         have:(S.data.toList.take (j+1)).length≤11:=by rw [List.length_take];omega
         calc 10^(S.data.toList.take (j+1)).length≤10^11:=Nat.pow_le_pow_right (by omega) this
          _=100000000000:=by decide
        have g1:(48:Int)≤(b.toNat:Int):=by omega
        have g2:(b.toNat:Int)≤57:=by omega
        go_wp2_with (first| (refine wpl_next rfl rfl rfl hk b.toNat (by rw [hbl];simp) (by omega) ?_;intro W1 hk1 hc1 hf1 hs1 hh1 hn1;have HNB:=Lib.hid hn1;clear hh1 hn1) | (go_at_call 26;refine stop_here ?_))
        refine go_on ?_
        refine(must_yes kb vs n _ (HX.out.below (HB.out.trans HNB.out) hkl) hn).mono ?_
        rintro e w3 ⟨rfl,rfl⟩
        go_wp2_with fail
        go_roundw
        case rel=>exact⟨j+1,10*N+(b.toNat - 48),by go_num,by omega,hN1,hk1,HN1,HA1,Lib.hid (HB.out.trans HNB.out)⟩
        case measure=>simp only [World.iterPos,hk1,hk];omega
       ·have hdg:digB b=false:=by simpa using hdg
        have HE:=Lib.hid (HR.out.trans (dig_bad hbl hdg))
        have hd:b.toNat<48∨57<b.toNat:=by
         unfold digB at hdg
         simp only [Bool.and_eq_false_iff,decide_eq_false_iff_not] at hdg
         omega
        by_cases h128:b.toNat<128
        ·rcases hd with hd|hd
         ·have g1: ¬(48:Int)≤(b.toNat:Int):=by omega
          go_wp2_with (first| (refine wpl_next rfl rfl rfl hk b.toNat (by rw [hbl];simp) (by omega) ?_;intro W1 hk1 hc1 hf1 hs1 hh1 hn1;have HNB:=Lib.hid hn1;clear hh1 hn1) | (go_at_call 26;refine stop_here ?_))
          refine go_on ?_
          refine(must_no kb vs n _ (HX.out.below (HB.out.trans HNB.out) hkl) hn).mono ?_
          rintro e w3 ⟨rfl,rfl⟩
          go_wp2_with fail
          exact(show _∧_ from⟨rfl,dpost_none HE.out (HB.out.trans HNB.out)⟩)
         ·have g1:(48:Int)≤(b.toNat:Int):=by omega
          have g2: ¬(b.toNat:Int)≤57:=by omega
          go_wp2_with (first| (refine wpl_next rfl rfl rfl hk b.toNat (by rw [hbl];simp) (by omega) ?_;intro W1 hk1 hc1 hf1 hs1 hh1 hn1;have HNB:=Lib.hid hn1;clear hh1 hn1) | (go_at_call 26;refine stop_here ?_))
          refine go_on ?_
          refine(must_no kb vs n _ (HX.out.below (HB.out.trans HNB.out) hkl) hn).mono ?_
          rintro e w3 ⟨rfl,rfl⟩
          go_wp2_with fail
          exact(show _∧_ from⟨rfl,dpost_none HE.out (HB.out.trans HNB.out)⟩)
        ·obtain⟨r,hdec⟩: ∃r,(Utf8.decode S j).1=r:=⟨_,rfl⟩
         have h1:=(HHI.out (by omega)).1
         rw [hdec] at h1
         have g1:(48:Int)≤(r:Int):=by omega
         have g2: ¬(r:Int)≤57:=by omega
         go_wp2_with (first| (refine wpl_next_any rfl rfl rfl hk hlt ?_;rw [hdec];intro W1 hk1 hc1 hf1 hs1 hh1 hn1;have HNB:=Lib.hid hn1;clear hh1 hn1) | (go_at_call 26;refine stop_here ?_))
         refine go_on ?_
         refine(must_no kb vs n _ (HX.out.below (HB.out.trans HNB.out) hkl) hn).mono ?_
         rintro e w3 ⟨rfl,rfl⟩
         go_wp2_with fail
         exact(show _∧_ from⟨rfl,dpost_none HE.out (HB.out.trans HNB.out)⟩)
      ·obtain rfl:j=S.size:=by omega
       have HT:=Lib.hid (show S.data.toList.take S.size=S.data.toList from List.take_of_length_le (by rw [HSZ.out];exact Nat.le_refl _))
       have HE:=Lib.hid (show digT true S.data.toList lo hi=if lo≤(-(N:Int))∧(-(N:Int))≤hi then some (-(N:Int)) else none by
        have hA:=HA.out
        have hNN:=HN.out
        rw [HT.out] at hA hNN
        unfold digT
        rw [if_pos hA,hNN]
        rfl)
       by_cases hv1:lo≤(-(N:Int))
       ·by_cases hv2:(-(N:Int))≤hi
        ·have HF:=Lib.hid (HR.out.trans (HE.out.trans (if_pos ⟨hv1,hv2⟩)))
         go_wp2_with (first| (refine wpl_next_end rfl rfl rfl hk (by simp) ?_) | (go_at_call 26;refine stop_here ?_))
         refine go_on ?_
         refine(must_yes kb vs n _ (HX.out.below HB.out hkl) hn).mono ?_
         rintro e w3 ⟨rfl,rfl⟩
         go_wp2_with fail
         go_ret
         exact dpost_some HF.out rfl HB.out
        ·have HF:=Lib.hid (HR.out.trans (HE.out.trans (if_neg (fun h=>hv2 h.2))))
         go_wp2_with (first| (refine wpl_next_end rfl rfl rfl hk (by simp) ?_) | (go_at_call 26;refine stop_here ?_))
         refine go_on ?_
         refine(must_no kb vs n _ (HX.out.below HB.out hkl) hn).mono ?_
         rintro e w3 ⟨rfl,rfl⟩
         go_wp2_with fail
         exact(show _∧_ from⟨rfl,dpost_none HF.out HB.out⟩)
       ·have HF:=Lib.hid (HR.out.trans (HE.out.trans (if_neg (fun h=>hv1 h.1))))
        go_wp2_with (first| (refine wpl_next_end rfl rfl rfl hk (by simp) ?_) | (go_at_call 26;refine stop_here ?_))
        refine go_on ?_
        refine(must_no kb vs n _ (HX.out.below HB.out hkl) hn).mono ?_
        rintro e w3 ⟨rfl,rfl⟩
        go_wp2_with fail
        exact(show _∧_ from⟨rfl,dpost_none HF.out HB.out⟩)
end Go.Proofs.YtlcidkiplidamaaGreatDoor
