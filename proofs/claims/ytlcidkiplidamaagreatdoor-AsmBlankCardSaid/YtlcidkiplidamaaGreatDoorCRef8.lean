/-
  turnstileref8.Lines and Words: the lines of a text, the words of a line.
-/
import Derived.Test.YtlcidkiplidamaaGreatDoorB05
import Derived.Test.YtlcidkiplidamaaGreatDoorB28
set_option linter.unusedSimpArgs false
set_option linter.unusedVariables false
set_option maxRecDepth 100000
set_option maxHeartbeats 1000000
namespace Go.Proofs.YtlcidkiplidamaaGreatDoor
open Go Go.RowKit Lib
/-- The lines, read from the left; cur: what is read of the line that has begun. -/
def rlGo:List UInt8→List UInt8→List (List UInt8)
  | [],cur=>if cur= [] then [] else [cur]
  |c::l,cur=>if c=10 then cur::rlGo l [] else rlGo l (cur++ [c])
theorem rl_feed {s:ByteArray} {j:Nat} {cur:List UInt8} (hb:s.data.toList[j]?=some 10):rlGo (s.data.toList.drop j) cur=cur::rlGo (s.data.toList.drop (j+1)) []:=by
  have hlt:=(List.getElem?_eq_some_iff.1 hb).1
  rw [List.drop_eq_getElem_cons hlt,(List.getElem?_eq_some_iff.1 hb).2,rlGo,if_pos rfl]
theorem rl_other {s:ByteArray} {j:Nat} {b:UInt8} {cur:List UInt8} (hb:s.data.toList[j]?=some b) (h:b≠10):rlGo (s.data.toList.drop j) cur=rlGo (s.data.toList.drop (j+1)) (cur++ [b]):=by
  have hlt:=(List.getElem?_eq_some_iff.1 hb).1
  rw [List.drop_eq_getElem_cons hlt,(List.getElem?_eq_some_iff.1 hb).2,rlGo,if_neg h]
theorem cur_more {s:ByteArray} {j n:Nat} {b:UInt8} (hn:n≤j) (hb:s.data.toList[j]?=some b):(s.data.toList.drop n).take (j+1 - n)=(s.data.toList.drop n).take (j - n)++ [b]:=by
  rw [show j+1 - n=(j - n)+1 by omega,List.take_add_one,List.getElem?_drop,show n+(j - n)=j by omega,hb]
  rfl
theorem rlines_any (s:ByteArray) (w:World) (hm:s.size≤1000000):
    Calls Tryz.prog 13 #[.string s] w fun e w'=> ∃v,e= .returned v∧Below w.heap.size w w'∧w'.ownsRow w.heap.size 9 1 v (rlGo s.data.toList []).length (strL (rlGo s.data.toList [])):=by
  have hl:s.data.toList.length=s.size:=Array.length_toList
  go_enter Tryz.func13,Tryz.ntmps13
  go_wp2_with fail
  go_loopw [3,4,5] (fun lv fv iv wr=> ∃(j n:Nat) (L:List (List UInt8)),iv= .int .i64 j∧fv= .int .i64 n∧n≤j∧j≤s.size∧L.length≤j∧Hid (wr.ownsRow w.heap.size 9 1 lv L.length (strL L))∧Hid (L++rlGo (s.data.toList.drop j) ((s.data.toList.drop n).take (j - n))=rlGo s.data.toList [])∧Hid (Below w.heap.size w wr)) (fun _ _ iv _=>s.size - (RowKit.intOf iv).toNat)
  case atStart=>exact⟨0,0, [],rfl,rfl,by omega,by omega,by simp,Lib.hid (World.ownsRow_nil _ _ _ _),Lib.hid (by simp),Lib.hid (Below.refl _ _)⟩
  case round=>
    obtain⟨j,n,L,rfl,rfl,hnj,hj,hLj,HO,HW,HB⟩:=hrel
    have hz:=HB.out.size
    by_cases hlt:j<s.size
    · have hlt':(j:Int) < (s.size:Int):=by omega
      obtain⟨b,hb⟩: ∃b,b=s[j]'hlt:=⟨_,rfl⟩
      have hbl:s.data.toList[j]?=some b:=by rw [byte_list hlt,hb]
      have hb2:=b.toNat_lt
      by_cases h10:b=10
      · have hq:(((s[j]'hlt).toNat:Int)==10)=true:=by rw [←hb,h10];rfl
        have HEX:=Lib.hid (show s.extract n j=⟨((s.data.toList.drop n).take (j - n)).toArray⟩ from ByteArray.ext (Array.toList_inj.1 (by rw [extract_list])))
        have HWB:=Lib.hid (rl_feed (cur:=(s.data.toList.drop n).take (j - n)) (by rw [hbl,h10]))
        clear hb hbl hb2
        go_wp2_with (at_builtin;refine stop_here ?_)
        refine go_on ?_
        refine wpl_append rfl _ _ 43 rfl Tryz.underlying43 info_string rfl (by omega) w.heap.size rfl (HO.out.alloc _) rfl rfl (cells_new_at _ _ _ _ (by first|rfl|omega| (simp<;>omega))) (by simp [Value.oneCell']) (by simp only [maxLen];omega) (by omega) (by first|rfl|omega| (simp<;>omega)) ?_
        intro v' W2 ho hg hb2
        have HO2:=Lib.hid ho
        have HB2:=Lib.hid (HB.out.trans (((Below.refl _ _).alloc (by omega) _).trans (hb2.mono (by omega))))
        clear ho hg hb2
        go_wp2_with fail
        go_roundw
        case rel=>exact⟨j+1,j+1,L++ [(s.data.toList.drop n).take (j - n)],by go_num,by go_num,by omega,by omega,by simp;omega,Lib.hid (own_eq HO2.out (by simp) (by rw [HEX.out];simp [strL])),Lib.hid (HW.out▸(by rw [HWB.out];simp)),HB2⟩
        case measure=>simp [RowKit.intOf];omega
      · have hq:(((s[j]'hlt).toNat:Int)==10)=false:=by rw [←hb,beq_eq_false_iff_ne];intro e;exact h10 (UInt8.toNat_inj.1 (by rw [show b.toNat=10 by omega];rfl))
        have HWB:=Lib.hid (rl_other (cur:=(s.data.toList.drop n).take (j - n)) hbl h10)
        have HCM:=Lib.hid (cur_more hnj hbl)
        clear hb hbl hb2
        go_wp2_with fail
        go_roundw
        case rel=>exact⟨j+1,n,L,by go_num,rfl,by omega,by omega,by omega,HO,Lib.hid (HW.out▸(by rw [HWB.out,HCM.out])),HB⟩
        case measure=>simp [RowKit.intOf];omega
    · obtain rfl:j=s.size:=by omega
      have HWE:=Lib.hid (show L++(if(s.data.toList.drop n).take (s.size - n)= [] then [] else [(s.data.toList.drop n).take (s.size - n)])=rlGo s.data.toList [] by rw [←HW.out,List.drop_of_length_le (i:=s.size) (by rw [hl];exact Nat.le_refl _),rlGo])
      have hcl:((s.data.toList.drop n).take (s.size - n)).length=s.size - n:=by rw [List.length_take,List.length_drop,hl];omega
      by_cases hn:n<s.size
      · have hn':(n:Int) < (s.size:Int):=by omega
        have HEX:=Lib.hid (show s.extract n s.size=⟨((s.data.toList.drop n).take (s.size - n)).toArray⟩ from ByteArray.ext (Array.toList_inj.1 (by rw [extract_list])))
        have HE2:=Lib.hid (show rlGo s.data.toList []=L++ [(s.data.toList.drop n).take (s.size - n)] by rw [←HWE.out,if_neg (fun e=>by rw [e] at hcl;simp at hcl;omega)])
        clear hcl
        go_wp2_with (at_builtin;refine stop_here ?_)
        refine go_on ?_
        refine wpl_append rfl _ _ 43 rfl Tryz.underlying43 info_string rfl (by omega) w.heap.size rfl (HO.out.alloc _) rfl rfl (cells_new_at _ _ _ _ (by first|rfl|omega| (simp<;>omega))) (by simp [Value.oneCell']) (by simp only [maxLen];omega) (by omega) (by first|rfl|omega| (simp<;>omega)) ?_
        intro v' W2 ho hg hb2
        have HO2:=Lib.hid ho
        have HB2:=Lib.hid (HB.out.trans (((Below.refl _ _).alloc (by omega) _).trans (hb2.mono (by omega))))
        clear ho hg hb2
        go_wp2_with fail
        go_ret
        exact⟨_,rfl,HB2.out,own_eq HO2.out (by rw [HE2.out];simp) (by rw [HE2.out,HEX.out];simp [strL])⟩
      · have HE2:=Lib.hid (show rlGo s.data.toList []=L by rw [←HWE.out,if_pos (List.eq_nil_of_length_eq_zero (by rw [hcl];omega))];simp)
        clear hcl
        go_wp2_with fail
        go_ret
        exact⟨_,rfl,HB.out,own_eq HO.out (by rw [HE2.out]) (by rw [HE2.out])⟩
theorem rwords_any (s:ByteArray) (w:World) (hm:s.size≤1000000):
    Calls Tryz.prog 14 #[.string s] w fun e w'=> ∃v,e= .returned v∧Below w.heap.size w w'∧w'.ownsRow w.heap.size 9 1 v (aWordsGo s.data.toList []).length (strL (aWordsGo s.data.toList [])):=by
  have hl:s.data.toList.length=s.size:=Array.length_toList
  go_enter Tryz.func14,Tryz.ntmps14
  go_wp2_with fail
  go_loopw [3,4,5] (fun lv fv iv wr=> ∃(j:Nat) (f:Int) (cur:List UInt8) (L:List (List UInt8)),iv= .int .i64 j∧fv= .int .i64 f∧j≤s.size∧L.length≤j∧Hid (wr.ownsRow w.heap.size 9 1 lv L.length (strL L))∧Hid (FromIs s j cur f)∧Hid (L++aWordsGo (s.data.toList.drop j) cur=aWordsGo s.data.toList [])∧Hid (Below w.heap.size w wr)) (fun _ _ iv _=>s.size - (RowKit.intOf iv).toNat)
  case atStart=>exact⟨0, -1, [], [],rfl,rfl,by omega,by simp,Lib.hid (World.ownsRow_nil _ _ _ _),Lib.hid (.inl ⟨rfl,rfl⟩),Lib.hid (by simp),Lib.hid (Below.refl _ _)⟩
  case round=>
    obtain⟨j,f,cur,L,rfl,rfl,hj,hLj,HO,HF,HW,HB⟩:=hrel
    have hz:=HB.out.size
    by_cases hlt:j<s.size
    · have hlt':(j:Int) < (s.size:Int):=by omega
      obtain⟨b,hb⟩: ∃b,b=s[j]'hlt:=⟨_,rfl⟩
      have hbl:s.data.toList[j]?=some b:=by rw [byte_list hlt,hb]
      have hb2:=b.toNat_lt
      by_cases hbk:blankB b=true
      · have hb32:b=32∨b=9:=by
          unfold blankB at hbk
          simpa using hbk
        have HWB:=Lib.hid (words_blank (cur:=cur) hbl hbk)
        rcases HF.out with⟨hc,hf⟩ | ⟨hc,n,hf,hnj,hcur⟩
        · subst hc
          subst hf
          rcases hb32 with rfl|rfl
          · have hq1:(((s[j]'hlt).toNat:Int)==32)=true:=by rw [←hb];rfl
            have hq2:(((s[j]'hlt).toNat:Int)==9)=false:=by rw [←hb];rfl
            clear hb hbl hb2 hbk
            go_wp2_with fail
            go_roundw
            case rel=>exact⟨j+1, -1, [],L,by go_num,rfl,by omega,by omega,HO,Lib.hid (.inl ⟨rfl,rfl⟩),Lib.hid (HW.out▸(by rw [HWB.out];rfl)),HB⟩
            case measure=>simp [RowKit.intOf];omega
          · have hq1:(((s[j]'hlt).toNat:Int)==32)=false:=by rw [←hb];rfl
            have hq2:(((s[j]'hlt).toNat:Int)==9)=true:=by rw [←hb];rfl
            clear hb hbl hb2 hbk
            go_wp2_with fail
            go_roundw
            case rel=>exact⟨j+1, -1, [],L,by go_num,rfl,by omega,by omega,HO,Lib.hid (.inl ⟨rfl,rfl⟩),Lib.hid (HW.out▸(by rw [HWB.out];rfl)),HB⟩
            case measure=>simp [RowKit.intOf];omega
        · have HEX:=Lib.hid (show s.extract n j=⟨cur.toArray⟩ from ByteArray.ext (Array.toList_inj.1 (by rw [extract_list,hcur])))
          subst hf
          clear hcur
          have hnn: ¬(n:Int) <0:=by omega
          have hnn2:(0:Int)≤(n:Int):=by omega
          have hnj2:(n:Int)≤(j:Int):=by omega
          have hjs:(j:Int)≤(s.size:Int):=by omega
          rcases hb32 with rfl|rfl
          · have hq1:(((s[j]'hlt).toNat:Int)==32)=true:=by rw [←hb];rfl
            have hq2:(((s[j]'hlt).toNat:Int)==9)=false:=by rw [←hb];rfl
            clear hb hbl hb2 hbk
            go_wp2_with (at_builtin;refine stop_here ?_)
            refine go_on ?_
            refine wpl_append rfl _ _ 43 rfl Tryz.underlying43 info_string rfl (by omega) w.heap.size rfl (HO.out.alloc _) rfl rfl (cells_new_at _ _ _ _ (by first|rfl|omega| (simp<;>omega))) (by simp [Value.oneCell']) (by simp only [maxLen];omega) (by omega) (by first|rfl|omega| (simp<;>omega)) ?_
            intro v' W2 ho hg hb2
            have HO2:=Lib.hid ho
            have HB2:=Lib.hid (HB.out.trans (((Below.refl _ _).alloc (by omega) _).trans (hb2.mono (by omega))))
            clear ho hg hb2
            go_wp2_with fail
            go_roundw
            case rel=>exact⟨j+1, -1, [],L++ [cur],by go_num,rfl,by omega,by simp;omega,Lib.hid (own_eq HO2.out (by simp) (by rw [HEX.out];simp [strL])),Lib.hid (.inl ⟨rfl,rfl⟩),Lib.hid (HW.out▸(by rw [HWB.out,if_neg hc];simp)),HB2⟩
            case measure=>simp [RowKit.intOf];omega
          · have hq1:(((s[j]'hlt).toNat:Int)==32)=false:=by rw [←hb];rfl
            have hq2:(((s[j]'hlt).toNat:Int)==9)=true:=by rw [←hb];rfl
            clear hb hbl hb2 hbk
            go_wp2_with (at_builtin;refine stop_here ?_)
            refine go_on ?_
            refine wpl_append rfl _ _ 43 rfl Tryz.underlying43 info_string rfl (by omega) w.heap.size rfl (HO.out.alloc _) rfl rfl (cells_new_at _ _ _ _ (by first|rfl|omega| (simp<;>omega))) (by simp [Value.oneCell']) (by simp only [maxLen];omega) (by omega) (by first|rfl|omega| (simp<;>omega)) ?_
            intro v' W2 ho hg hb2
            have HO2:=Lib.hid ho
            have HB2:=Lib.hid (HB.out.trans (((Below.refl _ _).alloc (by omega) _).trans (hb2.mono (by omega))))
            clear ho hg hb2
            go_wp2_with fail
            go_roundw
            case rel=>exact⟨j+1, -1, [],L++ [cur],by go_num,rfl,by omega,by simp;omega,Lib.hid (own_eq HO2.out (by simp) (by rw [HEX.out];simp [strL])),Lib.hid (.inl ⟨rfl,rfl⟩),Lib.hid (HW.out▸(by rw [HWB.out,if_neg hc];simp)),HB2⟩
            case measure=>simp [RowKit.intOf];omega
      · have hbk:blankB b=false:=by simpa using hbk
        have hq:((b.toNat:Int)==32)=false∧((b.toNat:Int)==9)=false:=by
          unfold blankB at hbk
          simp only [Bool.or_eq_false_iff,beq_eq_false_iff_ne] at hbk
          constructor
          · rw [beq_eq_false_iff_ne];intro e;exact hbk.1 (UInt8.toNat_inj.1 (by rw [show b.toNat=32 by omega];rfl))
          · rw [beq_eq_false_iff_ne];intro e;exact hbk.2 (UInt8.toNat_inj.1 (by rw [show b.toNat=9 by omega];rfl))
        obtain⟨hq1,hq2⟩:=hq
        rw [hb] at hq1 hq2
        have HWB:=Lib.hid (words_letter (cur:=cur) hbl hbk)
        have HF1:=Lib.hid (fromIs_one HF.out hbl)
        rcases HF.out with⟨hc,hf⟩ | ⟨hc,n,hf,hnj,hcur⟩
        · subst hf
          clear hb hbl hb2 hbk
          go_wp2_with fail
          go_roundw
          case rel=>exact⟨j+1,j,cur++ [b],L,by go_num,rfl,by omega,by omega,HO,HF1,Lib.hid (HW.out▸(by rw [HWB.out])),HB⟩
          case measure=>simp [RowKit.intOf];omega
        · subst hf
          clear hcur hb hbl hb2 hbk
          have hnn: ¬(n:Int) <0:=by omega
          have hnn2:(0:Int)≤(n:Int):=by omega
          go_wp2_with fail
          go_roundw
          case rel=>exact⟨j+1,n,cur++ [b],L,by go_num,rfl,by omega,by omega,HO,Lib.hid (by have h:=HF1.out;rw [if_neg hnn] at h;exact h),Lib.hid (HW.out▸(by rw [HWB.out])),HB⟩
          case measure=>simp [RowKit.intOf];omega
    · obtain rfl:j=s.size:=by omega
      have HWE:=Lib.hid (show aWordsGo s.data.toList []=L++(if cur= [] then [] else [cur]) by rw [←HW.out,List.drop_of_length_le (by rw [hl];exact Nat.le_refl _),aWordsGo])
      rcases HF.out with⟨hc,hf⟩ | ⟨hc,n,hf,hnj,hcur⟩
      · subst hf
        subst hc
        have HE2:=Lib.hid (show aWordsGo s.data.toList []=L by rw [HWE.out];simp)
        go_wp2_with fail
        go_ret
        exact⟨_,rfl,HB.out,own_eq HO.out (by rw [HE2.out]) (by rw [HE2.out])⟩
      · have HEX:=Lib.hid (show s.extract n s.size=⟨cur.toArray⟩ from ByteArray.ext (Array.toList_inj.1 (by rw [extract_list,hcur])))
        have HE2:=Lib.hid (show aWordsGo s.data.toList []=L++ [cur] by rw [HWE.out,if_neg hc])
        subst hf
        clear hcur
        have hnn: ¬(n:Int) <0:=by omega
        have hnn2:(0:Int)≤(n:Int):=by omega
        have hnj2:(n:Int)≤(s.size:Int):=by omega
        go_wp2_with (at_builtin;refine stop_here ?_)
        refine go_on ?_
        refine wpl_append rfl _ _ 43 rfl Tryz.underlying43 info_string rfl (by omega) w.heap.size rfl (HO.out.alloc _) rfl rfl (cells_new_at _ _ _ _ (by first|rfl|omega| (simp<;>omega))) (by simp [Value.oneCell']) (by simp only [maxLen];omega) (by omega) (by first|rfl|omega| (simp<;>omega)) ?_
        intro v' W2 ho hg hb2
        have HO2:=Lib.hid ho
        have HB2:=Lib.hid (HB.out.trans (((Below.refl _ _).alloc (by omega) _).trans (hb2.mono (by omega))))
        clear ho hg hb2
        go_wp2_with fail
        go_ret
        exact⟨_,rfl,HB2.out,own_eq HO2.out (by rw [HE2.out];simp) (by rw [HE2.out,HEX.out];simp [strL])⟩
def trimL (x:List (List UInt8)):List (List UInt8):=if x.getLastD []= [] then x.dropLast else x
def prepL (cur:List UInt8):List (List UInt8)→List (List UInt8)
  | []=> [cur]
  |h::t=> (cur++h)::t
theorem trim_cons (a:List UInt8) (x:List (List UInt8)) (h:x≠ []):trimL (a::x)=a::trimL x:=by
  unfold trimL
  cases x with
  |nil=>exact absurd rfl h
  |cons b t=>
    have e:(a::b::t).getLastD []=(b::t).getLastD []:=by simp [List.getLastD_eq_getLast?,List.getLast?_cons_cons]
    rw [e]
    split
    · rw [List.dropLast_cons_of_ne_nil (by simp)]
    · rfl
theorem rl_cut (l cur:List UInt8):rlGo l cur=trimL (prepL cur (cutL l)):=by
  induction l generalizing cur with
  |nil=>
    rw [rlGo,cutL]
    unfold trimL prepL
    simp
  |cons c l ih=>
    rw [rlGo,cutL]
    split
    · rw [ih,show prepL cur ([]::cutL l)=cur::cutL l by simp [prepL],trim_cons _ _ (cutL_ne l)]
      congr 2
      cases hc:cutL l with
      |nil=>exact absurd hc (cutL_ne l)
      |cons h t=>simp [prepL]
    · rw [ih]
      cases hc:cutL l with
      |nil=>exact absurd hc (cutL_ne l)
      |cons h t=>simp [prepL]
/-- The reference's lines are the lines. -/
theorem rl_lines (l:List UInt8):rlGo l []=linesL l:=by
  rw [rl_cut]
  unfold linesL
  cases hc:cutL l with
  |nil=>exact absurd hc (cutL_ne l)
  |cons h t=>rfl
theorem rl_no10: ∀(l cur:List UInt8),(10:UInt8)∉cur→ ∀x∈rlGo l cur,(10:UInt8)∉x:=by
  intro l
  induction l with
  |nil=>
    intro cur hc x hx
    rw [rlGo] at hx
    split at hx
    · cases hx
    · obtain rfl:x=cur:=by simpa using hx
      exact hc
  |cons c l ih=>
    intro cur hc x hx
    rw [rlGo] at hx
    split at hx
    · rcases List.mem_cons.1 hx with rfl|hx
      · exact hc
      · exact ih [] (by simp) x hx
    · rename_i hne
      refine ih (cur++ [c]) (fun h=> ?_) x hx
      rcases List.mem_append.1 h with h|h
      · exact hc h
      · exact hne (List.mem_singleton.1 h).symm
theorem rl_size: ∀(l cur:List UInt8),((rlGo l cur).map (·.length)).sum+(rlGo l cur).length≤l.length+cur.length+1:=by
  intro l
  induction l with
  |nil=>
    intro cur
    rw [rlGo]
    split<;>simp
  |cons c l ih=>
    intro cur
    rw [rlGo]
    split
    · have h:=ih []
      simp only [List.map_cons,List.sum_cons,List.length_cons,List.length_nil] at h⊢
      omega
    · have h:=ih (cur++ [c])
      simp only [List.length_append,List.length_cons,List.length_nil] at h⊢
      omega
end Go.Proofs.YtlcidkiplidamaaGreatDoor
