/-
  What the laws rest on, part 11: walks of the program's functions and plain laws. Conditions: none but those that each theorem names.
-/
import Derived.Test.YtlcidkiplidamaaGreatDoorB00
import Derived.Test.YtlcidkiplidamaaGreatDoorB10
import Derived.Test.YtlcidkiplidamaaGreatDoorB03
import Derived.Test.YtlcidkiplidamaaGreatDoorB02
import Derived.BigQuiet
import Derived.Deep.QuietTactic
set_option linter.unusedSimpArgs false
set_option linter.unusedVariables false
set_option maxRecDepth 100000
set_option maxHeartbeats 1000000
namespace Go.Proofs.YtlcidkiplidamaaGreatDoor
open Go Go.RowKit Lib
def eqF:List UInt8→List UInt8→List (List UInt8)
 | [],cur=>if cur= [] then [] else [cur]
 |c::l,cur=>if c=10 then cur::eqF l [] else eqF l (cur++ [c])
theorem oqq {s:ByteArray} {j:Nat} {cur:List UInt8} (hb:s.data.toList[j]?=some 10):eqF (s.data.toList.drop j) cur=cur::eqF (s.data.toList.drop (j+1)) []:=by
 have hlt:=(List.getElem?_eq_some_iff.1 hb).1
 rw [List.drop_eq_getElem_cons hlt,(List.getElem?_eq_some_iff.1 hb).2,eqF,if_pos rfl]
theorem mqH {s:ByteArray} {j:Nat} {b:UInt8} {cur:List UInt8} (hb:s.data.toList[j]?=some b) (h:b≠10):eqF (s.data.toList.drop j) cur=eqF (s.data.toList.drop (j+1)) (cur++ [b]):=by
 have hlt:=(List.getElem?_eq_some_iff.1 hb).1
 rw [List.drop_eq_getElem_cons hlt,(List.getElem?_eq_some_iff.1 hb).2,eqF,if_neg h]
theorem mqI {s:ByteArray} {j n:Nat} {b:UInt8} (hn:n≤j) (hb:s.data.toList[j]?=some b):(s.data.toList.drop n).take (j+1 - n)=(s.data.toList.drop n).take (j - n)++ [b]:=by
 rw [show j+1 - n=(j - n)+1 by omega,List.take_add_one,List.getElem?_drop,show n+(j - n)=j by omega,hb]
 rfl
theorem jqx (s:ByteArray) (w:World) (hm:s.size≤1000000):
  Calls Tryz.prog 13 #[.string s] w fun e w'=> ∃v,e= .returned v∧Below w.heap.size w w'∧w'.ownsRow w.heap.size 9 1 v (eqF s.data.toList []).length (fq9 (eqF s.data.toList [])):=by
 have hl:s.data.toList.length=s.size:=Array.length_toList
 go_enter Tryz.func13,Tryz.ntmps13
 go_wp2_with fail
 go_loopw [3,4,5] (fun lv fv iv wr=> ∃(j n:Nat) (L:List (List UInt8)),iv= .int .i64 j∧fv= .int .i64 n∧n≤j∧j≤s.size∧L.length≤j∧Hid (wr.ownsRow w.heap.size 9 1 lv L.length (fq9 L))∧Hid (L++eqF (s.data.toList.drop j) ((s.data.toList.drop n).take (j - n))=eqF s.data.toList [])∧Hid (Below w.heap.size w wr)) (fun _ _ iv _=>s.size - (RowKit.intOf iv).toNat)
 case atStart=>exact⟨0,0, [],rfl,rfl,by omega,by omega,by simp,Hq (World.ownsRow_nil _ _ _ _),Hq (by simp),Hq (Below.refl _ _)⟩
 case round=>
  obtain⟨j,n,L,rfl,rfl,hnj,hj,hLj,HO,HW,HB⟩:=hrel
  have hz:=HB.out.size
  by_cases hlt:j<s.size
  ·have hlt':(j:Int) < (s.size:Int):=by omega
   obtain⟨b,hb⟩: ∃b,b=s[j]'hlt:=⟨_,rfl⟩
   have hbl:s.data.toList[j]?=some b:=by rw [aqv hlt,hb]
   have hb2:=b.toNat_lt
   by_cases h10:b=10
   ·have hq:(((s[j]'hlt).toNat:Int)==10)=true:=by rw [←hb,h10];rfl
    have HEX:=Hq (show s.extract n j=⟨((s.data.toList.drop n).take (j - n)).toArray⟩ from ByteArray.ext (Array.toList_inj.1 (by rw [aqK])))
    have HWB:=Hq (oqq (cur:=(s.data.toList.drop n).take (j - n)) (by rw [hbl,h10]))
    clear hb hbl hb2
    go_wp2_with (at_builtin;refine aqa ?_)
    refine aqb ?_
    refine bqG rfl _ _ 43 rfl Tryz.underlying43 aqR rfl (by omega) w.heap.size rfl (HO.out.alloc _) rfl rfl (aqd _ _ _ _ (by first|rfl|omega| (simp<;>omega))) (by simp [Value.oneCell']) (by simp only [maxLen];omega) (by omega) (by first|rfl|omega| (simp<;>omega)) ?_
    intro v' W2 ho hg hb2
    have HO2:=Hq ho
    have HB2:=Hq (HB.out.trans (((Below.refl _ _).alloc (by omega) _).trans (hb2.mono (by omega))))
    clear ho hg hb2
    go_wp2_with fail
    go_roundw
    case rel=>exact⟨j+1,j+1,L++ [(s.data.toList.drop n).take (j - n)],by go_num,by go_num,by omega,by omega,by simp;omega,Hq (bqq HO2.out (by simp) (by rw [HEX.out];simp [fq9])),Hq (HW.out▸(by rw [HWB.out];simp)),HB2⟩
    case measure=>simp [RowKit.intOf];omega
   have hq:(((s[j]'hlt).toNat:Int)==10)=false:=by rw [←hb,beq_eq_false_iff_ne];intro e;exact h10 (UInt8.toNat_inj.1 (by rw [show b.toNat=10 by omega];rfl))
   have HWB:=Hq (mqH (cur:=(s.data.toList.drop n).take (j - n)) hbl h10)
   have HCM:=Hq (mqI hnj hbl)
   clear hb hbl hb2
   go_wp2_with fail
   go_roundw
   case rel=>exact⟨j+1,n,L,by go_num,rfl,by omega,by omega,by omega,HO,Hq (HW.out▸(by rw [HWB.out,HCM.out])),HB⟩
   case measure=>simp [RowKit.intOf];omega
  obtain rfl:j=s.size:=by omega
  have HWE:=Hq (show L++(if(s.data.toList.drop n).take (s.size - n)= [] then [] else [(s.data.toList.drop n).take (s.size - n)])=eqF s.data.toList [] by rw [←HW.out,List.drop_of_length_le (i:=s.size) (by rw [hl];exact Nat.le_refl _),eqF])
  have hcl:((s.data.toList.drop n).take (s.size - n)).length=s.size - n:=by rw [List.length_take,List.length_drop,hl];omega
  by_cases hn:n<s.size
  ·have hn':(n:Int) < (s.size:Int):=by omega
   have HEX:=Hq (show s.extract n s.size=⟨((s.data.toList.drop n).take (s.size - n)).toArray⟩ from ByteArray.ext (Array.toList_inj.1 (by rw [aqK])))
   have HE2:=Hq (show eqF s.data.toList []=L++ [(s.data.toList.drop n).take (s.size - n)] by rw [←HWE.out,if_neg (fun e=>by rw [e] at hcl;simp at hcl;omega)])
   clear hcl
   go_wp2_with (at_builtin;refine aqa ?_)
   refine aqb ?_
   refine bqG rfl _ _ 43 rfl Tryz.underlying43 aqR rfl (by omega) w.heap.size rfl (HO.out.alloc _) rfl rfl (aqd _ _ _ _ (by first|rfl|omega| (simp<;>omega))) (by simp [Value.oneCell']) (by simp only [maxLen];omega) (by omega) (by first|rfl|omega| (simp<;>omega)) ?_
   intro v' W2 ho hg hb2
   have HO2:=Hq ho
   have HB2:=Hq (HB.out.trans (((Below.refl _ _).alloc (by omega) _).trans (hb2.mono (by omega))))
   clear ho hg hb2
   go_wp2_with fail
   go_ret
   exact⟨_,rfl,HB2.out,bqq HO2.out (by rw [HE2.out];simp) (by rw [HE2.out,HEX.out];simp [fq9])⟩
  have HE2:=Hq (show eqF s.data.toList []=L by rw [←HWE.out,if_pos (List.eq_nil_of_length_eq_zero (by rw [hcl];omega))];simp)
  clear hcl
  go_wp2_with fail
  go_ret
  exact⟨_,rfl,HB.out,bqq HO.out (by rw [HE2.out]) (by rw [HE2.out])⟩
theorem jqy (s:ByteArray) (w:World) (hm:s.size≤1000000):
  Calls Tryz.prog 14 #[.string s] w fun e w'=> ∃v,e= .returned v∧Below w.heap.size w w'∧w'.ownsRow w.heap.size 9 1 v (aqy s.data.toList []).length (fq9 (aqy s.data.toList [])):=by
 have hl:s.data.toList.length=s.size:=Array.length_toList
 go_enter Tryz.func14,Tryz.ntmps14
 go_wp2_with fail
 go_loopw [3,4,5] (fun lv fv iv wr=> ∃(j:Nat) (f:Int) (cur:List UInt8) (L:List (List UInt8)),iv= .int .i64 j∧fv= .int .i64 f∧j≤s.size∧L.length≤j∧Hid (wr.ownsRow w.heap.size 9 1 lv L.length (fq9 L))∧Hid (gqs s j cur f)∧Hid (L++aqy (s.data.toList.drop j) cur=aqy s.data.toList [])∧Hid (Below w.heap.size w wr)) (fun _ _ iv _=>s.size - (RowKit.intOf iv).toNat)
 case atStart=>exact⟨0, -1, [], [],rfl,rfl,by omega,by simp,Hq (World.ownsRow_nil _ _ _ _),Hq (.inl ⟨rfl,rfl⟩),Hq (by simp),Hq (Below.refl _ _)⟩
 case round=>
  obtain⟨j,f,cur,L,rfl,rfl,hj,hLj,HO,HF,HW,HB⟩:=hrel
  have hz:=HB.out.size
  by_cases hlt:j<s.size
  ·have hlt':(j:Int) < (s.size:Int):=by omega
   obtain⟨b,hb⟩: ∃b,b=s[j]'hlt:=⟨_,rfl⟩
   have hbl:s.data.toList[j]?=some b:=by rw [aqv hlt,hb]
   have hb2:=b.toNat_lt
   by_cases hbk:dqg b=true
   ·have hb32:b=32∨b=9:=by
     unfold dqg at hbk
     simpa using hbk
    have HWB:=Hq (fqH (cur:=cur) hbl hbk)
    rcases HF.out with⟨hc,hf⟩ | ⟨hc,n,hf,hnj,hcur⟩
    ·subst hc
     subst hf
     rcases hb32 with rfl|rfl
     ·have hq1:(((s[j]'hlt).toNat:Int)==32)=true:=by rw [←hb];rfl
      have hq2:(((s[j]'hlt).toNat:Int)==9)=false:=by rw [←hb];rfl
      clear hb hbl hb2 hbk
      go_wp2_with fail
      go_roundw
      case rel=>exact⟨j+1, -1, [],L,by go_num,rfl,by omega,by omega,HO,Hq (.inl ⟨rfl,rfl⟩),Hq (HW.out▸(by rw [HWB.out];rfl)),HB⟩
      case measure=>simp [RowKit.intOf];omega
     have hq1:(((s[j]'hlt).toNat:Int)==32)=false:=by rw [←hb];rfl
     have hq2:(((s[j]'hlt).toNat:Int)==9)=true:=by rw [←hb];rfl
     clear hb hbl hb2 hbk
     go_wp2_with fail
     go_roundw
     case rel=>exact⟨j+1, -1, [],L,by go_num,rfl,by omega,by omega,HO,Hq (.inl ⟨rfl,rfl⟩),Hq (HW.out▸(by rw [HWB.out];rfl)),HB⟩
     case measure=>simp [RowKit.intOf];omega
    have HEX:=Hq (show s.extract n j=⟨cur.toArray⟩ from ByteArray.ext (Array.toList_inj.1 (by rw [aqK,hcur])))
    subst hf
    clear hcur
    have hnn: ¬(n:Int) <0:=by omega
    have hnn2:(0:Int)≤(n:Int):=by omega
    have hnj2:(n:Int)≤(j:Int):=by omega
    have hjs:(j:Int)≤(s.size:Int):=by omega
    rcases hb32 with rfl|rfl
    ·have hq1:(((s[j]'hlt).toNat:Int)==32)=true:=by rw [←hb];rfl
     have hq2:(((s[j]'hlt).toNat:Int)==9)=false:=by rw [←hb];rfl
     clear hb hbl hb2 hbk
     go_wp2_with (at_builtin;refine aqa ?_)
     refine aqb ?_
     refine bqG rfl _ _ 43 rfl Tryz.underlying43 aqR rfl (by omega) w.heap.size rfl (HO.out.alloc _) rfl rfl (aqd _ _ _ _ (by first|rfl|omega| (simp<;>omega))) (by simp [Value.oneCell']) (by simp only [maxLen];omega) (by omega) (by first|rfl|omega| (simp<;>omega)) ?_
     intro v' W2 ho hg hb2
     have HO2:=Hq ho
     have HB2:=Hq (HB.out.trans (((Below.refl _ _).alloc (by omega) _).trans (hb2.mono (by omega))))
     clear ho hg hb2
     go_wp2_with fail
     go_roundw
     case rel=>exact⟨j+1, -1, [],L++ [cur],by go_num,rfl,by omega,by simp;omega,Hq (bqq HO2.out (by simp) (by rw [HEX.out];simp [fq9])),Hq (.inl ⟨rfl,rfl⟩),Hq (HW.out▸(by rw [HWB.out,if_neg hc];simp)),HB2⟩
     case measure=>simp [RowKit.intOf];omega
    have hq1:(((s[j]'hlt).toNat:Int)==32)=false:=by rw [←hb];rfl
    have hq2:(((s[j]'hlt).toNat:Int)==9)=true:=by rw [←hb];rfl
    clear hb hbl hb2 hbk
    go_wp2_with (at_builtin;refine aqa ?_)
    refine aqb ?_
    refine bqG rfl _ _ 43 rfl Tryz.underlying43 aqR rfl (by omega) w.heap.size rfl (HO.out.alloc _) rfl rfl (aqd _ _ _ _ (by first|rfl|omega| (simp<;>omega))) (by simp [Value.oneCell']) (by simp only [maxLen];omega) (by omega) (by first|rfl|omega| (simp<;>omega)) ?_
    intro v' W2 ho hg hb2
    have HO2:=Hq ho
    have HB2:=Hq (HB.out.trans (((Below.refl _ _).alloc (by omega) _).trans (hb2.mono (by omega))))
    clear ho hg hb2
    go_wp2_with fail
    go_roundw
    case rel=>exact⟨j+1, -1, [],L++ [cur],by go_num,rfl,by omega,by simp;omega,Hq (bqq HO2.out (by simp) (by rw [HEX.out];simp [fq9])),Hq (.inl ⟨rfl,rfl⟩),Hq (HW.out▸(by rw [HWB.out,if_neg hc];simp)),HB2⟩
    case measure=>simp [RowKit.intOf];omega
   have hbk:dqg b=false:=by simpa using hbk
   have hq:((b.toNat:Int)==32)=false∧((b.toNat:Int)==9)=false:=by
    unfold dqg at hbk
    simp only [Bool.or_eq_false_iff,beq_eq_false_iff_ne] at hbk
    constructor
    ·rw [beq_eq_false_iff_ne];intro e;exact hbk.1 (UInt8.toNat_inj.1 (by rw [show b.toNat=32 by omega];rfl))
    rw [beq_eq_false_iff_ne];intro e;exact hbk.2 (UInt8.toNat_inj.1 (by rw [show b.toNat=9 by omega];rfl))
   obtain⟨hq1,hq2⟩:=hq
   rw [hb] at hq1 hq2
   have HWB:=Hq (eq8 (cur:=cur) hbl hbk)
   have HF1:=Hq (gqt HF.out hbl)
   rcases HF.out with⟨hc,hf⟩ | ⟨hc,n,hf,hnj,hcur⟩
   ·subst hf
    clear hb hbl hb2 hbk
    go_wp2_with fail
    go_roundw
    case rel=>exact⟨j+1,j,cur++ [b],L,by go_num,rfl,by omega,by omega,HO,HF1,Hq (HW.out▸(by rw [HWB.out])),HB⟩
    case measure=>simp [RowKit.intOf];omega
   subst hf
   clear hcur hb hbl hb2 hbk
   have hnn: ¬(n:Int) <0:=by omega
   have hnn2:(0:Int)≤(n:Int):=by omega
   go_wp2_with fail
   go_roundw
   case rel=>exact⟨j+1,n,cur++ [b],L,by go_num,rfl,by omega,by omega,HO,Hq (by have h:=HF1.out;rw [if_neg hnn] at h;exact h),Hq (HW.out▸(by rw [HWB.out])),HB⟩
   case measure=>simp [RowKit.intOf];omega
  obtain rfl:j=s.size:=by omega
  have HWE:=Hq (show aqy s.data.toList []=L++(if cur= [] then [] else [cur]) by rw [←HW.out,List.drop_of_length_le (by rw [hl];exact Nat.le_refl _),aqy])
  rcases HF.out with⟨hc,hf⟩ | ⟨hc,n,hf,hnj,hcur⟩
  ·subst hf
   subst hc
   have HE2:=Hq (show aqy s.data.toList []=L by rw [HWE.out];simp)
   go_wp2_with fail
   go_ret
   exact⟨_,rfl,HB.out,bqq HO.out (by rw [HE2.out]) (by rw [HE2.out])⟩
  have HEX:=Hq (show s.extract n s.size=⟨cur.toArray⟩ from ByteArray.ext (Array.toList_inj.1 (by rw [aqK,hcur])))
  have HE2:=Hq (show aqy s.data.toList []=L++ [cur] by rw [HWE.out,if_neg hc])
  subst hf
  clear hcur
  have hnn: ¬(n:Int) <0:=by omega
  have hnn2:(0:Int)≤(n:Int):=by omega
  have hnj2:(n:Int)≤(s.size:Int):=by omega
  go_wp2_with (at_builtin;refine aqa ?_)
  refine aqb ?_
  refine bqG rfl _ _ 43 rfl Tryz.underlying43 aqR rfl (by omega) w.heap.size rfl (HO.out.alloc _) rfl rfl (aqd _ _ _ _ (by first|rfl|omega| (simp<;>omega))) (by simp [Value.oneCell']) (by simp only [maxLen];omega) (by omega) (by first|rfl|omega| (simp<;>omega)) ?_
  intro v' W2 ho hg hb2
  have HO2:=Hq ho
  have HB2:=Hq (HB.out.trans (((Below.refl _ _).alloc (by omega) _).trans (hb2.mono (by omega))))
  clear ho hg hb2
  go_wp2_with fail
  go_ret
  exact⟨_,rfl,HB2.out,bqq HO2.out (by rw [HE2.out];simp) (by rw [HE2.out,HEX.out];simp [fq9])⟩
def kq2 (x:List (List UInt8)):List (List UInt8):=if x.getLastD []= [] then x.dropLast else x
def jqz (cur:List UInt8):List (List UInt8)→List (List UInt8)
 | []=> [cur]
 |h::t=> (cur++h)::t
theorem kq3 (a:List UInt8) (x:List (List UInt8)) (h:x≠ []):kq2 (a::x)=a::kq2 x:=by
 unfold kq2
 cases x with
 |nil=>exact absurd rfl h
 |cons b t=>
  have e:(a::b::t).getLastD []=(b::t).getLastD []:=by simp [List.getLastD_eq_getLast?,List.getLast?_cons_cons]
  rw [e]
  split
  ·rw [List.dropLast_cons_of_ne_nil (by simp)]
  rfl
theorem oq0 (l cur:List UInt8):eqF l cur=kq2 (jqz cur (eqT l)):=by
 induction l generalizing cur with
 |nil=>
  rw [eqF,eqT]
  unfold kq2 jqz
  simp
 |cons c l ih=>
  rw [eqF,eqT]
  split
  ·rw [ih,show jqz cur ([]::eqT l)=cur::eqT l by simp [jqz],kq3 _ _ (fqv l)]
   congr 2
   cases hc:eqT l with
   |nil=>exact absurd hc (fqv l)
   |cons h t=>simp [jqz]
  rw [ih]
  cases hc:eqT l with
  |nil=>exact absurd hc (fqv l)
  |cons h t=>simp [jqz]
theorem mqJ (l:List UInt8):eqF l []=eq4 l:=by
 rw [oq0]
 unfold eq4
 cases hc:eqT l with
 |nil=>exact absurd hc (fqv l)
 |cons h t=>rfl
theorem rl_no10: ∀(l cur:List UInt8),(10:UInt8)∉cur→ ∀x∈eqF l cur,(10:UInt8)∉x:=by
 intro l
 induction l with
 |nil=>
  intro cur hc x hx
  rw [eqF] at hx
  split at hx
  ·cases hx
  ·obtain rfl:x=cur:=by simpa using hx
   exact hc
 |cons c l ih=>
  intro cur hc x hx
  rw [eqF] at hx
  split at hx
  ·rcases List.mem_cons.1 hx with rfl|hx
   ·exact hc
   exact ih [] (by simp) x hx
  rename_i hne
  refine ih (cur++ [c]) (fun h=> ?_) x hx
  rcases List.mem_append.1 h with h|h
  ·exact hc h
  exact hne (List.mem_singleton.1 h).symm
theorem rl_size: ∀(l cur:List UInt8),((eqF l cur).map (·.length)).sum+(eqF l cur).length≤l.length+cur.length+1:=by
 intro l
 induction l with
 |nil=>
  intro cur
  rw [eqF]
  split<;>simp
 |cons c l ih=>
  intro cur
  rw [eqF]
  split
  ·have h:=ih []
   simp only [List.map_cons,List.sum_cons,List.length_cons,List.length_nil] at h⊢
   omega
  have h:=ih (cur++ [c])
  simp only [List.length_append,List.length_cons,List.length_nil] at h⊢
  omega
set_option maxHeartbeats 2000000
def Ret (w:World) (v:Value) (e:Ending) (w':World):Prop:=e= .returned v∧Below w.heap.size w w'
theorem eqa (wo:List UInt8) (b:UInt8):dqM wo b=true↔(33≤b.toNat∧b.toNat≤126)∧ ∀k:Nat,wo[k]?≠some b:=by
 unfold dqM
 simp only [Bool.and_eq_true,decide_eq_true_eq,Bool.not_eq_true',decide_eq_false_iff_not]
 refine and_congr Iff.rfl ⟨fun h=> ?_,fun h hn=> ?_⟩
 ·have:=Lib.indexByte_ge wo b
  exact Lib.indexByte_none (by omega)
 obtain⟨o,ho⟩:=Int.eq_ofNat_of_zero_le hn
 exact h o (Lib.indexByte_some ho).1
theorem jqA {wo:List UInt8} {s:ByteArray} (h1:1≤s.size) (h2:s.size≤255) (h: ∀(i:Nat) c,s.data.toList[i]?=some c→dqM wo c=true):bqd wo s.data.toList=true:=by
 have hl:s.data.toList.length=s.size:=Array.length_toList
 unfold bqd
 simp only [Bool.and_eq_true,decide_eq_true_eq,hl,h2,and_true]
 refine⟨List.all_eq_true.2 fun c hc=> ?_, ?_⟩
 ·obtain⟨i,hi⟩:=List.mem_iff_getElem?.1 hc
  exact h i c hi
 cases hs:s.data.toList with
 |nil=>rw [hs] at hl;simp at hl;omega
 |cons a l=>rfl
theorem hqo (s wo:ByteArray) (w:World) (hm:s.size≤1000000) (hw:wo.size≤100):
  Calls Tryz.prog 172 #[.string s, .string wo] w (Ret w (.bool (bqd wo.data.toList s.data.toList))):=by
 have hl:s.data.toList.length=s.size:=Array.length_toList
 by_cases h1:s.size<1
 ·have HX:=Hq (show bqd wo.data.toList s.data.toList=false by
   unfold bqd
   rw [List.eq_nil_of_length_eq_zero (by omega:s.data.toList.length=0)]
   simp)
  have h1':(s.size:Int) <1:=by omega
  go_enter Tryz.func172,Tryz.ntmps172
  go_wp2_with fail
  go_ret
  exact⟨by rw [HX.out];rfl,Below.refl _ _⟩
 have h1': ¬(s.size:Int) <1:=by omega
 by_cases h2:255<s.size
 ·have HX:=Hq (show bqd wo.data.toList s.data.toList=false by
   unfold bqd
   rw [hl,decide_eq_false (by omega),Bool.and_false])
  have h2':(255:Int) < (s.size:Int):=by omega
  go_enter Tryz.func172,Tryz.ntmps172
  go_wp2_with fail
  go_ret
  exact⟨by rw [HX.out];rfl,Below.refl _ _⟩
 have h2': ¬(255:Int) < (s.size:Int):=by omega
 go_enter Tryz.func172,Tryz.ntmps172
 go_wp2_with fail
 go_loopw [5] (fun iv wr=> ∃j:Nat,iv= .int .i64 j∧j≤s.size∧Hid (∀(i:Nat) c,i<j→s.data.toList[i]?=some c→dqM wo.data.toList c=true)∧Hid (Below w.heap.size w wr)) (fun i _=>s.size - (RowKit.intOf i).toNat)
 case atStart=>exact⟨0,rfl,by omega,Hq (fun i c hi=>absurd hi (by omega)),Hq (Below.refl _ _)⟩
 case round=>
  obtain⟨wo',hwo⟩: ∃W,W=wr:=⟨_,rfl⟩
  subst hwo
  obtain⟨j,rfl,hj,HG,HB⟩:=hrel
  by_cases hlt:j<s.size
  ·obtain⟨b,hb⟩: ∃b,b=s[j]'hlt:=⟨_,rfl⟩
   have hbl:s.data.toList[j]?=some b:=by rw [aqv hlt,hb]
   have hlt':(j:Int) < (s.size:Int):=by omega
   have bad:dqM wo.data.toList b=false→bqd wo.data.toList s.data.toList=false:=fun hx=>cqO hbl hx
   by_cases h33:b.toNat<33
   ·have HX:=Hq (bad (by rw [←Bool.not_eq_true,eqa];omega))
    have h33':((s[j]'hlt).toNat:Int) <33:=by rw [←hb];omega
    clear bad hbl hb
    go_wp2_with fail
    go_ret
    exact⟨by rw [HX.out];rfl,HB.out⟩
   have h33': ¬((s[j]'hlt).toNat:Int) <33:=by rw [←hb];omega
   by_cases h126:126<b.toNat
   ·have HX:=Hq (bad (by rw [←Bool.not_eq_true,eqa];omega))
    have h126':(126:Int) < ((s[j]'hlt).toNat:Int):=by rw [←hb];omega
    clear bad hbl hb
    go_wp2_with fail
    go_ret
    exact⟨by rw [HX.out];rfl,HB.out⟩
   have h126': ¬(126:Int) < ((s[j]'hlt).toNat:Int):=by rw [←hb];omega
   have HBAD:=Hq bad
   have HBL:=Hq hbl
   have HBE:=Hq hb
   clear bad hbl hb
   go_wp2_with fail
   go_loopw [6] (fun kv wr=> ∃k:Nat,kv= .int .i64 k∧k≤wo.size∧Hid (∀i:Nat,i<k→wo.data.toList[i]?≠some b)∧Hid (Below w.heap.size w wr)) (fun k _=>wo.size - (RowKit.intOf k).toNat)
   case atStart=>exact⟨0,rfl,by omega,Hq (fun i hi=>absurd hi (by omega)),HB⟩
   case round=>
    obtain⟨k,rfl,hk,HN,HC⟩:=hrel
    have HD:=Hq (fun m=>HC.out.trans (below_drewN (Below.refl w.heap.size wr) m))
    by_cases hkl:k<wo.size
    ·have hk':(k:Int) < (wo.size:Int):=by omega
     have hcl:wo.data.toList[k]?=some (wo[k]'hkl):=aqv hkl
     have hj0:(0:Int)≤(j:Int):=by omega
     have hk0:(0:Int)≤(k:Int):=by omega
     by_cases he:wo[k]'hkl=b
     ·have hq:(((s[j]'hlt).toNat:Int)==((wo[k]'hkl).toNat:Int))=true:=by rw [he,HBE.out];simp
      have HX:=Hq (HBAD.out (by rw [←Bool.not_eq_true,eqa];rintro⟨_,h⟩;exact h k (by rw [hcl,he])))
      clear he hcl
      go_wp2_with fail
      go_quiet (fail)
      go_wp2_with fail
      go_ret
      exact⟨by rw [HX.out];rfl,HD.out _⟩
     have hq:(((s[j]'hlt).toNat:Int)==((wo[k]'hkl).toNat:Int))=false:=by
      rw [beq_eq_false_iff_ne]
      intro e
      exact he (by rw [HBE.out];exact(UInt8.toNat_inj.1 (by omega)).symm)
     have HN2:=Hq (show∀i:Nat,i<k+1→wo.data.toList[i]?≠some b from fun i hi e=>by
      rcases Nat.lt_or_ge i k with h|h
      ·exact HN.out i h e
      obtain rfl:i=k:=by omega
      rw [hcl] at e
      exact he (Option.some.inj e))
     clear he hcl
     go_wp2_with fail
     go_quiet (fail)
     go_wp2_with fail
     go_roundw
     case rel=>exact⟨k+1,by go_num,by omega,HN2,Hq (HD.out _)⟩
     case measure=>simp [RowKit.intOf];omega
    have hwl:wo.data.toList.length=wo.size:=Array.length_toList
    have HG2:=Hq (show∀(i:Nat) c,i<j+1→s.data.toList[i]?=some c→dqM wo.data.toList c=true from fun i c hi hc=>by
     rcases Nat.lt_or_ge i j with h|h
     ·exact HG.out i c h hc
     obtain rfl:i=j:=by omega
     rw [HBL.out] at hc
     cases hc
     refine(eqa _ _).2 ⟨⟨by omega,by omega⟩,fun q e=> ?_⟩
     have:=(List.getElem?_eq_some_iff.1 e).1
     exact HN.out q (by omega) e)
    go_wp2_with fail
    go_roundw
    case rel=>exact⟨j+1,by go_num,by omega,HG2,HC⟩
    case measure=>simp [RowKit.intOf];omega
  have HX:=Hq (jqA (wo:=wo.data.toList) (by omega) (by omega) (fun i c hc=>HG.out i c (by have:=(List.getElem?_eq_some_iff.1 hc).1;omega) hc))
  go_wp2_with fail
  go_ret
  exact⟨by rw [HX.out];rfl,HB.out⟩
theorem kq4 (l:List UInt8) (lb:UInt8):eqf lb l=true↔(∀k:Nat,(lb::l)[k]?=some 47→(lb::l)[k+1]?≠some 47)∧(lb::l).getLast?≠some 47:=by
 induction l generalizing lb with
 |nil=>
  unfold eqf
  simp
 |cons c l ih=>
  rw [eqf,Bool.and_eq_true,ih]
  have hg:(lb::c::l).getLast?=(c::l).getLast?:=List.getLast?_cons_cons
  rw [hg]
  constructor
  ·rintro⟨h1,h2,h3⟩
   refine⟨fun k=> ?_,h3⟩
   cases k with
   |zero=>
    simp at h1⊢
    intro a b
    rcases h1 with h|h
    ·exact h b
    ·exact h a
   |succ k=>exact h2 k
  rintro⟨h1,h3⟩
  refine⟨?_,fun k=>h1 (k+1),h3⟩
  have:=h1 0
  simp at this⊢
  by_cases e:lb=47
  ·exact .inl (this e)
  exact .inr e
theorem q47 {b:UInt8} (h:b=47):((b.toNat:Int)==47)=true:=by rw [h];rfl
theorem n47 {b:UInt8} (h:b≠47):((b.toNat:Int)==47)=false:=by rw [beq_eq_false_iff_ne];intro e;exact h (UInt8.toNat_inj.1 (by rw [show b.toNat=47 by omega];rfl))
theorem gqu (s:ByteArray) (w:World) (hm:s.size≤1000000):
  Calls Tryz.prog 144 #[.string s] w (Ret w (.bool (bqK s.data.toList))):=by
 have HP:=Hq (hqo s ⟨#[46,59,91]⟩ w hm (by decide))
 have hl:s.data.toList.length=s.size:=Array.length_toList
 have hld:(⟨#[46,59,91]⟩:ByteArray).data.toList= [46,59,91]:=rfl
 rw [hld] at HP
 cases hlet:bqd [46,59,91] s.data.toList with
 |false=>
  have HX:=Hq (show bqK s.data.toList=false by unfold bqK;rw [hlet];rfl)
  rw [hlet] at HP
  go_enter Tryz.func144,Tryz.ntmps144
  go_wp2_with (go_at_call 172;refine HP.out.mono ?_;rintro e w1 ⟨rfl,hb⟩)
  go_ret
  exact⟨by rw [HX.out];rfl,hb⟩
 |true=>
  have h1:0<s.size∧s.size≤255:=by
   unfold bqd at hlet
   simp only [Bool.and_eq_true,decide_eq_true_eq,hl] at hlet
   refine⟨?_,hlet.2⟩
   rcases Nat.eq_zero_or_pos s.size with h|h
   ·rw [List.eq_nil_of_length_eq_zero (by omega:s.data.toList.length=0)] at hlet
    simp at hlet
   exact h
  obtain⟨h0,h255⟩:=h1
  have HC:=Hq (show bqK s.data.toList=true↔(∀k:Nat,(47::s.data.toList)[k]?=some 47→(47::s.data.toList)[k+1]?≠some 47)∧(47::s.data.toList).getLast?≠some 47 by
   rw [←kq4]
   unfold bqK
   rw [hlet]
   rfl)
  have HF:=Hq (show∀k:Nat,(47::s.data.toList)[k]?=some 47→(47::s.data.toList)[k+1]?=some 47→bqK s.data.toList=false from fun k a b=>by
   rw [←Bool.not_eq_true,HC.out]
   exact fun h=>h.1 k a b)
  rw [hlet] at HP
  obtain⟨m,hmm⟩: ∃m,s.size=m+1:=⟨s.size - 1,by omega⟩
  have hw1:IntKind.i64.wrap ((s.size:Int) - 1)=(m:Int):=by rw [IntWalk.i64_in _ (by omega)];omega
  have hms:m<s.size:=by omega
  have hm0:(0:Int)≤(m:Int):=by omega
  have hm1:(m:Int) < (s.size:Int):=by omega
  have h0':(0:Int) < (s.size:Int):=by omega
  have a0:s.data.toList[0]?=some (s[0]'h0):=aqv h0
  have am:s.data.toList[m]?=some (s[m]'hms):=aqv hms
  have hgl:(47::s.data.toList).getLast?=some (s[m]'hms):=by
   rw [List.getLast?_eq_getElem?,List.length_cons,hl,hmm]
   exact am
  clear hlet
  by_cases e0:(s[0]'h0)=47
  ·have HX:=Hq (HF.out 0 rfl (a0.trans (by rw [e0])))
   have q0:=q47 e0
   clear e0 a0 am hgl
   go_enter Tryz.func144,Tryz.ntmps144
   go_wp2_with (go_at_call 172;refine HP.out.mono ?_;rintro e w1 ⟨rfl,hb⟩)
   go_ret
   exact⟨by rw [HX.out];rfl,hb⟩
  have q0:=n47 e0
  by_cases em:(s[m]'hms)=47
  ·have HX:=Hq (show bqK s.data.toList=false by rw [←Bool.not_eq_true,HC.out];exact fun h=>h.2 (by rw [hgl,em]))
   have qm:=q47 em
   clear e0 a0 am hgl em
   go_enter Tryz.func144,Tryz.ntmps144
   go_wp2_with (go_at_call 172;refine HP.out.mono ?_;rintro e w1 ⟨rfl,hb⟩)
   go_ret
   exact⟨by rw [HX.out];rfl,hb⟩
  have qm:=n47 em
  have HEN:=Hq (show(∀i:Nat,0<i→i<s.size→s.data.toList[i - 1]?=some 47→s.data.toList[i]?≠some 47)→bqK s.data.toList=true from fun h=>HC.out.2 ⟨fun k=>by
   cases k with
   |zero=>exact fun _ e=>e0 (Option.some.inj (a0.symm.trans e))
   |succ k=>exact fun a b=>h (k+1) (by omega) (by have:=(List.getElem?_eq_some_iff.1 (show s.data.toList[k+1]?=some 47 from b)).1;omega) a b,by rw [hgl];exact fun e=>em (Option.some.inj e)⟩)
  clear e0 a0 am hgl em
  go_enter Tryz.func144,Tryz.ntmps144
  go_wp2_with (go_at_call 172;refine HP.out.mono ?_;rintro e w1 ⟨rfl,hb⟩)
  go_loopw [4] (fun iv wr=> ∃i:Nat,iv= .int .i64 (i+1:Nat)∧i<s.size∧Hid (∀q:Nat,0<q→q<i+1→s.data.toList[q - 1]?=some 47→s.data.toList[q]?≠some 47)∧Hid (Below w.heap.size w wr)) (fun i _=>s.size - (RowKit.intOf i).toNat)
  case atStart=>exact⟨0,rfl,by omega,Hq (fun q hq h=>absurd h (by omega)),Hq hb⟩
  case round=>
   obtain⟨i,rfl,hi,HN,HB⟩:=hrel
   by_cases hlt:i+1<s.size
   ·have hlt':((i+1:Nat):Int) < (s.size:Int):=by omega
    have hi0:(0:Int)≤((i+1:Nat):Int):=by omega
    have hw2:IntKind.i64.wrap (((i+1:Nat):Int) - 1)=(i:Int):=by rw [IntWalk.i64_in _ (by omega)];omega
    have hi1:(0:Int)≤(i:Int):=by omega
    have hi2:(i:Int) < (s.size:Int):=by omega
    have a1:s.data.toList[i+1]?=some (s[i+1]'hlt):=aqv hlt
    have a2:s.data.toList[i]?=some (s[i]'(by omega)):=aqv (by omega)
    have NXT: ¬(s.data.toList[i]?=some 47∧s.data.toList[i+1]?=some 47)→Hid (∀q:Nat,0<q→q<i+1+1→s.data.toList[q - 1]?=some 47→s.data.toList[q]?≠some 47):=fun hx=>Hq (fun q h1 h2 h3 h4=>by
     rcases Nat.lt_or_ge q (i+1) with h|h
     ·exact HN.out q h1 h h3 h4
     obtain rfl:q=i+1:=by omega
     exact hx ⟨h3,h4⟩)
    obtain⟨p,hp⟩: ∃p,i+1=p:=⟨_,rfl⟩
    rw [a1,a2] at NXT
    by_cases e1:(s[i+1]'hlt)=47
    ·have q1:=q47 e1
     by_cases e2:(s[i]'(by omega))=47
     ·have q2:=q47 e2
      have HX:=Hq (HF.out (i+1) (show s.data.toList[i]?=_ by rw [a2,e2]) (show s.data.toList[i+1]?=_ by rw [a1,e1]))
      clear a1 a2 e1 e2 NXT hp
      go_wp2_with fail
      go_ret
      exact⟨by rw [HX.out];rfl,HB.out⟩
     have q2:=n47 e2
     have HN2:=NXT (fun h=>e2 (Option.some.inj h.1))
     clear a1 a2 e1 e2 NXT hp
     go_wp2_with fail
     go_roundw
     case rel=>exact⟨i+1,by go_num,by omega,HN2,HB⟩
     case measure=>simp [RowKit.intOf];omega
    have q1:=n47 e1
    have HN2:=NXT (fun h=>e1 (Option.some.inj h.2))
    clear a1 a2 e1 NXT hp
    go_wp2_with fail
    go_roundw
    case rel=>exact⟨i+1,by go_num,by omega,HN2,HB⟩
    case measure=>simp [RowKit.intOf];omega
   have HX:=Hq (HEN.out (fun q h1 h2=>HN.out q h1 (by omega)))
   have hlt': ¬((i+1:Nat):Int) < (s.size:Int):=by omega
   go_wp2_with fail
   go_ret
   exact⟨by rw [HX.out];rfl,HB.out⟩
theorem eqi (s:ByteArray) (w:World) (hm:s.size≤1000000):
  Calls Tryz.prog 149 #[.string s] w (Ret w (.bool (bqr s.data.toList))):=by
 have HP:=Hq (hqo s ⟨#[46,59,91,47,60,62]⟩ w hm (by decide))
 go_enter Tryz.func149,Tryz.ntmps149
 go_wp2_with (go_at_call 172;refine HP.out.mono ?_;rintro e w1 ⟨rfl,hb⟩)
 go_ret
 exact⟨rfl,hb⟩
theorem fqI (s:ByteArray) (w:World) (hm:s.size≤1000000):
  Calls Tryz.prog 145 #[.string s] w (Ret w (.bool (aq6 s.data.toList))):=by
 have HP:=eqi s w hm
 obtain⟨b1,h1⟩: ∃b,b=(s.data.toList==dqN):=⟨_,rfl⟩
 obtain⟨b2,h2⟩: ∃b,b=(s.data.toList==bqM):=⟨_,rfl⟩
 obtain⟨b3,h3⟩: ∃b,b=bqr s.data.toList:=⟨_,rfl⟩
 have e1:(s.toList== [60,105,110,105,116,62])=b1:=by rw [ByteArray.toList_eq,h1];rfl
 have e2:(s.toList== [60,99,108,105,110,105,116,62])=b2:=by rw [ByteArray.toList_eq,h2];rfl
 have HE:=Hq (show aq6 s.data.toList=(b1||b2||b3) by rw [h1,h2,h3];rfl)
 rw [←h3] at HP
 replace HP:=Hq HP
 clear h1 h2 h3
 rw [HE.out]
 go_enter Tryz.func145,Tryz.ntmps145
 cases b1<;>cases b2<;>cases b3
 all_goals
  go_wp2_with (go_at_call 149;refine HP.out.mono ?_;rintro e w1 ⟨rfl,hb⟩)
  go_ret
  exact⟨rfl,hb⟩
theorem hqq {l:List UInt8} (h1:l≠ [73]) (h:l.length≤2∨255<l.length∨l.headD 0≠76∨l.getLastD 0≠59):aqx l=false:=by
 unfold aqx
 rw [beq_eq_false_iff_ne.2 h1,Bool.false_or]
 rcases h with h|h|h|h
 ·rw [decide_eq_false (by omega)];rfl
 ·rw [decide_eq_false (show¬l.length≤255 by omega)];simp
 ·rw [beq_eq_false_iff_ne.2 h];simp
 rw [beq_eq_false_iff_ne.2 h];simp
theorem dqk (s:ByteArray) (w:World) (hm:s.size≤1000000):
  Calls Tryz.prog 146 #[.string s] w (Ret w (.bool (aqx s.data.toList))):=by
 have hl:s.data.toList.length=s.size:=Array.length_toList
 by_cases hI:s.data.toList= [73]
 ·have e1:(s.toList== [73])=true:=by rw [ByteArray.toList_eq,hI];rfl
  have HX:=Hq (show aqx s.data.toList=true by rw [hI];rfl)
  clear hI
  go_enter Tryz.func146,Tryz.ntmps146
  go_wp2_with fail
  go_ret
  exact⟨by rw [HX.out];rfl,Below.refl _ _⟩
 have e1:(s.toList== [73])=false:=by rw [ByteArray.toList_eq];exact beq_eq_false_iff_ne.2 hI
 by_cases hn:2<s.size
 ·have HF:=gq3 s hn
  have HC:=gqu (s.extract 1 (s.size - 1)) w (by rw [ByteArray.size_extract];omega)
  obtain⟨m,hmm⟩: ∃m,s.size - 1=m:=⟨_,rfl⟩
  have hms:m<s.size:=by omega
  have h0s:0<s.size:=by omega
  have n3: ¬(s.size:Int) <3:=by omega
  have hw1:IntKind.i64.wrap ((s.size:Int) - 1)=(m:Int):=by rw [IntWalk.i64_in _ (by omega)];omega
  have hm0:(0:Int)≤(m:Int):=by omega
  have hm1:(m:Int) < (s.size:Int):=by omega
  have hm2:(1:Int)≤(m:Int):=by omega
  have hm3:(m:Int)≤(s.size:Int):=by omega
  have h0':(0:Int) < (s.size:Int):=by omega
  simp only [hmm] at HF HC
  obtain⟨x,hx⟩: ∃x,s.extract 1 m=x:=⟨_,rfl⟩
  rw [hx] at HF HC
  obtain⟨b0,hb0⟩: ∃b:Bool,(((s[0]'h0s).toNat:Int) !=76)=b:=⟨_,rfl⟩
  obtain⟨b1,hb1⟩: ∃b:Bool,(((s[m]'hms).toNat:Int) !=59)=b:=⟨_,rfl⟩
  obtain⟨b2,hb2⟩: ∃b:Bool,decide ((s.size:Int) >255)=b:=⟨_,rfl⟩
  obtain⟨b3,hb3⟩: ∃b:Bool,bqK x.data.toList=b:=⟨_,rfl⟩
  have k0:((s[0]'h0s)==76)= !b0:=by
   rw [←hb0,Bool.eq_iff_iff]
   simp [←UInt8.toNat_inj]
   omega
  have k1:((s[m]'hms)==59)= !b1:=by
   rw [←hb1,Bool.eq_iff_iff]
   simp [←UInt8.toNat_inj]
   omega
  have k2:decide (s.size≤255)= !b2:=by
   rw [←hb2,Bool.eq_iff_iff]
   simp
   omega
  rw [k0,k1,k2,hb3] at HF
  rw [hb3] at HC
  replace HF:=Hq HF
  replace HC:=Hq HC
  clear k0 k1 k2 hb3 hI hmm hl
  rw [HF.out]
  go_enter Tryz.func146,Tryz.ntmps146
  cases b2<;>cases b0<;>cases b1<;>cases b3
  all_goals
   go_wp2_with (go_at_call 144;refine HC.out.mono ?_;rintro e w1 ⟨rfl,hb⟩)
   go_ret
   first|exact⟨rfl,hb⟩ |exact⟨rfl,Below.refl _ _⟩
 have HX:=Hq (hqq hI (.inl (by omega)))
 have n3:(s.size:Int) <3:=by omega
 clear hI hl
 go_enter Tryz.func146,Tryz.ntmps146
 go_wp2_with fail
 go_ret
 exact⟨by rw [HX.out];rfl,Below.refl _ _⟩
end Go.Proofs.YtlcidkiplidamaaGreatDoor
