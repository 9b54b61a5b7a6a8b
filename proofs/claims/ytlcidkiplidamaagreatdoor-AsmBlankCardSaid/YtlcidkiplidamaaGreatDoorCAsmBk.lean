/-
  AsmBlank: blanks and tabs, lines without words, and lines that begin with # turn nothing but the lines' numbers.
-/
import Derived.Test.YtlcidkiplidamaaGreatDoorCAsmPs
import Derived.Test.YtlcidkiplidamaaGreatDoorCBlankQ
import Derived.Laws.OwnMore
set_option linter.unusedSimpArgs false
set_option linter.unusedVariables false
set_option maxRecDepth 100000
set_option maxHeartbeats 8000000
namespace Go.Proofs.YtlcidkiplidamaaGreatDoor
open Go Go.RowKit Lib Go.Maps
/-- The row 'where', as far as its first i cells. -/
def whL (cnt:Nat→Nat) (n i:Nat):List Value:=(List.range (n+1)).map fun k=>Value.int .i64 (if k<i then blF cnt (k+1) else 0:Nat)
theorem whL_len (cnt:Nat→Nat) (n i:Nat):(whL cnt n i).length=n+1:=by simp [whL]
theorem whL_zero (cnt:Nat→Nat) (n:Nat):whL cnt n 0=(madeCells (Value.int .i64 0).cells ((n+1)*1)).toList:=by
  apply List.ext_getElem
  · simp [whL,madeCells,Value.cells]
  · intro i h1 h2
    simp [whL,madeCells,Value.cells,Nat.mod_one]
theorem whL_step (cnt:Nat→Nat) (n i z:Nat) (hi:i<n) (hz:z=2*blSum cnt (i+1)):(whL cnt n i).set i (.int .i64 ((i:Int)+1+(z:Int)))=whL cnt n (i+1):=by
  subst hz
  apply List.ext_getElem
  · simp [whL]
  · intro k h1 h2
    simp only [whL,List.getElem_set,List.getElem_map,List.getElem_range]
    by_cases e:i=k
    · subst e
      rw [if_pos rfl,if_pos (Nat.lt_succ_self _),blF]
      congr 1
    · rw [if_neg e]
      by_cases h:k<i
      · rw [if_pos h,if_pos (show k<i+1 by omega)]
      · rw [if_neg h,if_neg (show¬k<i+1 by omega)]
theorem whL_at (cnt:Nat→Nat) (n k:Nat) (hk:k<n):(whL cnt n n)[k]?=some (.int .i64 (blF cnt (k+1):Nat)):=by
  simp [whL,hk,show k<n+1 by omega]
theorem size_of {t:ByteArray} {l:List UInt8} (h:t.data.toList=l):t.size=l.length:=by rw [←h];exact Array.length_toList.symm
theorem bytes_appB (a b:ByteArray):(a++b).data.toList=a.data.toList++b.data.toList:=by simp [ByteArray.data_append]
theorem spaced_snoc {W:List (List UInt8)} {k:Nat} {x:List UInt8} (h:W[k]?=some x):spaced (W.take (k+1))=spaced (W.take k)++ [9,32]++x++ [32,32]:=by
  rw [List.take_add_one,h]
  simp [spaced]
theorem spaced_take (W:List (List UInt8)) (k:Nat):(spaced (W.take k)).length≤(spaced W).length:=by
  conv=>rhs;rw [←List.take_append_drop k W]
  simp only [spaced,List.flatMap_append,List.length_append]
  omega
theorem lawBlank_any (text:ByteArray) (A:Option Addr) (len cap:Nat) (ats:List Int) (mx:Int) (w:World) (ht:text.size≤9223372036854775807) (hr:RdI w A len cap ats) (hmx:w.cell? ⟨Tryz.maxB,0,none⟩=some (.int .i64 mx)):
    Calls Tryz.prog 4 #[.string text, .slice A len cap] w fun e w'=>e= .returned (.bool true)∧Below w.heap.size w w':=by
  have HAL:=Lib.hid (alive_asm mx w hmx)
  have hxw:Tryz.maxB<w.heap.size:=World.block_lt_of_cell? _ _ hmx
  have HMX:=Lib.hid hmx
  clear hmx
  by_cases h1:4000<text.size
  · have h1':(4000:Int) < (text.size:Int):=by omega
    go_enter Tryz.func4,Tryz.ntmps4
    go_wp2_with (go_at_call 8;refine HAL.out.mono ?_;rintro e w1 ⟨rfl,hb1⟩)
    go_ret
    exact⟨rfl,hb1⟩
  have h1': ¬(4000:Int) < (text.size:Int):=by omega
  by_cases h2:30<len
  · have h2':(30:Int) < (len:Int):=by omega
    go_enter Tryz.func4,Tryz.ntmps4
    go_wp2_with (go_at_call 8;refine HAL.out.mono ?_;rintro e w1 ⟨rfl,hb1⟩)
    go_ret
    exact⟨rfl,hb1⟩
  have h2': ¬(30:Int) < (len:Int):=by omega
  obtain⟨ls,hls⟩: ∃ls,rlGo text.data.toList []=ls:=⟨_,rfl⟩
  have hl4:text.data.toList.length=text.size:=Array.length_toList
  obtain⟨n,hn⟩: ∃n,ls.length=n:=⟨_,rfl⟩
  have hn4:n≤4000:=by
    have:=rl_cnt text.data.toList []
    rw [hls,hn] at this
    simp at this
    omega
  have hsm:sumL ls≤4000:=by
    have:=rl_sum text.data.toList []
    rw [hls] at this
    simp at this
    omega
  have hlen:=hr.hlen
  have HCN:=Lib.hid (show∀i,cntA ats i≤30 from fun i=>by
    have:=cnt_le ats len i
    rw [List.take_of_length_le (by omega)] at this
    omega)
  have HBT:=Lib.hid (show∀i,i≤n→(blT (cntA ats) ls i).length≤2000000 from fun i hi=>by
    have a:=blT_len (cntA ats) ls i
    have b:=blSum_le (cntA ats) HCN.out i
    have c:=sumL_take ls i
    omega)
  have HSU:=Lib.hid (show∀i,i≤n→blSum (cntA ats) i≤120000 from fun i hi=>by have b:=blSum_le (cntA ats) HCN.out i;omega)
  have HLL:=Lib.hid (show∀l∈ls,l.length≤4000 from fun l hl=>by have:=mem_sum hl;omega)
  have HLS:=Lib.hid hls
  have HN:=Lib.hid hn
  have HR:=Lib.hid hr
  obtain⟨ui,hui,huz,hus,hub⟩:=info_parts info_int
  have HMK:=Lib.hid (fun(W:World) (B:Nat) (hB:B≤W.heap.size)=>run_makeSlice_full (P:=Tryz.prog) (w:=W) B 24 3 ui (.int .i64 0) 1 Tryz.underlying24 hui huz hus .i64 .i64 (n+1) (by omega) (by rw [hub];omega) (by simp only [maxLen];omega) hB)
  clear hui huz hus hub h1 h2 hr
  go_enter Tryz.func4,Tryz.ntmps4
  go_wp2_with (go_at_call 8;refine stop_here ?_)
  refine go_on ?_
  refine HAL.out.mono ?_
  rintro e w1 ⟨rfl,hb1⟩
  have HB1:=Lib.hid hb1
  clear hb1 HAL
  go_wp2_with (go_at_call 13;refine stop_here ?_)
  refine go_on ?_
  refine(rlines_any text w1 (by omega)).mono ?_
  rintro e w2 ⟨v,rfl,hb2,ho2⟩
  rw [hls,hn] at ho2
  obtain⟨Al,kl,rfl⟩:=own_slice ho2
  have HL:=Lib.hid (fun i l (hi:ls[i]?=some l)=>str_cells ho2 hi)
  have HB2:=Lib.hid (HB1.out.trans (hb2.mono HB1.out.size))
  obtain⟨w3,hmk,ho3,hg3⟩:=HMK.out w2 w2.heap.size (Nat.le_refl _)
  rw [←whL_zero (cntA ats) n] at ho3
  rw [show((n+1:Nat):Int)=(n:Int)+1 by omega] at hmk
  have HO3:=Lib.hid ho3
  have HB3:=Lib.hid ((Below.refl w2.heap.size w2).grown hg3 (Nat.le_refl _) (fun q hq=>by cases hq))
  clear ho2 hb2 ho3 hg3 HMK hls hn
  go_wp2_with fail
  clear hmk
  go_loopw [7,8,10] (fun ov av iv wr=> ∃(i z:Nat) (t:ByteArray),iv= .int .i64 i∧av= .int .i64 z∧ov= .string t∧i≤n∧Hid (z=2*blSum (cntA ats) i)∧Hid (t.data.toList=blT (cntA ats) ls i)∧Hid (Below w2.heap.size w2 wr)∧Hid (wr.ownsRow w2.heap.size 3 1 (.slice (some ⟨w2.heap.size,0,none⟩) (n+1) (n+1)) (n+1) (whL (cntA ats) n i))) (fun _ _ i _=>n - (RowKit.intOf i).toNat)
  case atStart=>exact⟨0,0,_,rfl,rfl,rfl,by omega,Lib.hid rfl,Lib.hid rfl,HB3,HO3⟩
  case round=>
    obtain⟨wo,hwo⟩: ∃W,W=wr:=⟨_,rfl⟩
    subst hwo
    obtain⟨i,z,t,rfl,rfl,rfl,hi,HZ,HT,HB,HO⟩:=hrel
    have hz:=HB.out.size
    by_cases hlt:i<n
    · obtain⟨l,hl⟩: ∃l,ls[i]?=some l:=⟨_,List.getElem?_eq_getElem (by rw [HN.out];exact hlt)⟩
      have hll:=HLL.out l (List.mem_of_getElem? hl)
      have HST:=Lib.hid (blT_step (cnt:=cntA ats) hl)
      have hbt:=HBT.out i hi
      have hsu:=HSU.out (i+1) (by omega)
      have hsu0:=HSU.out i hi
      have hsp:=spaced_le l
      obtain⟨gl,rfl,_,hgl,cl⟩:=HL.out i l hl
      have cl':wo.cell? ⟨gl,i,none⟩=some (.string ⟨l.toArray⟩):=(HB.out.cell (p:=⟨gl,i,none⟩) hgl).trans cl
      have hi0:(0:Int)≤(i:Int):=by omega
      have hi1:(i:Int) < (n:Int):=by omega
      have htz:=size_of HT.out
      clear cl hl
      go_wp2_with (go_at_call 14;refine stop_here ?_)
      refine go_on ?_
      refine(rwords_any ⟨l.toArray⟩ wo (by show l.toArray.size≤_;simp;omega)).mono ?_
      rintro e w4 ⟨v4,rfl,hb4,ho4⟩
      obtain⟨W,hW⟩: ∃W,aWordsGo l []=W:=⟨_,rfl⟩
      have hWl:aWordsGo (⟨l.toArray⟩:ByteArray).data.toList []=W:=hW
      rw [hWl] at ho4
      rw [hW] at hsp
      replace HST:=Lib.hid (hW▸HST.out)
      obtain⟨m,hm⟩: ∃m,W.length=m:=⟨_,rfl⟩
      rw [hm] at ho4
      obtain⟨Aw,kw,rfl⟩:=own_slice ho4
      have HWC:=Lib.hid (fun k x (hk:W[k]?=some x)=>str_cells ho4 hk)
      have HWM:=Lib.hid hm
      have hm5:m≤20000:=by
        have a:=spaced_len W
        omega
      have HB4:=Lib.hid (HB.out.trans (hb4.mono hz))
      have hz4:=HB4.out.size
      have HO4:=Lib.hid (own_heap HO.out (fun g hg=>hb4.block g (HO.out.lt g hg).2))
      have hwlt:w2.heap.size<wo.heap.size:=(HO.out.lt _ rfl).2
      clear ho4 hb4 HO HB hW hWl hm cl'
      go_wp2_with fail
      go_loopw [7,8,12] (fun ov av kv wk=> ∃(k y:Nat) (t':ByteArray),kv= .int .i64 k∧av= .int .i64 y∧ov= .string t'∧k≤len∧Hid (y=2*blSum (cntA ats) i+2*cntA (ats.take k) i)∧Hid (t'.data.toList=blT (cntA ats) ls i++mutesL (cntA (ats.take k) i))∧Hid (wk=w4)) (fun _ _ k _=>len - (RowKit.intOf k).toNat)
      case atStart=>exact⟨0,z,t,rfl,rfl,rfl,by omega,Lib.hid (by rw [HZ.out];simp [cntA]),Lib.hid (by rw [HT.out];simp [cntA,mutes_zero]),Lib.hid (by first|rfl|trivial)⟩
      case round=>
        obtain⟨k,y,t',rfl,rfl,rfl,hk,HY,HT',HWk⟩:=hrel
        obtain⟨wk,hwk⟩: ∃W,W=wr:=⟨_,rfl⟩
        subst hwk
        obtain rfl:=HWk.out
        have hck:=cnt_le ats k i
        have hy:=HY.out
        have htz':t'.size≤2000500:=by rw [size_of HT'.out,List.length_append,mutes_len];omega
        by_cases hkl:k<len
        · obtain⟨x,hx⟩: ∃x,ats[k]?=some x:=⟨_,List.getElem?_eq_getElem (by omega)⟩
          obtain⟨ba,oa,rfl,hba,ca⟩:=HR.out.hat k x hx
          have ca':wk.cell? ⟨ba,oa+k,none⟩=some (.int .i64 x):=by
            refine(HB4.out.cell (p:=⟨ba,oa+k,none⟩) (Nat.lt_of_lt_of_le hba HB2.out.size)).trans ((HB2.out.cell (p:=⟨ba,oa+k,none⟩) hba).trans ca)
          have hk0:(0:Int)≤(k:Int):=by omega
          have hk1:(k:Int) < (len:Int):=by omega
          have hcs:=cnt_step (i:=i) hx
          clear ca hx
          by_cases he:x=(i:Int)
          · have hq:(x==(i:Int))=true:=by simp [he]
            rw [if_pos he] at hcs
            have HCS:=Lib.hid hcs
            have hs16: ¬(9223372036854775807<t'.size+16):=by omega
            have hw2:IntKind.i64.wrap ((y:Int)+2)=((y+2:Nat):Int):=by rw [IntWalk.i64_in _ (by omega)];omega
            have HY2:=Lib.hid (show y+2=2*blSum (cntA ats) i+2*cntA (ats.take (k+1)) i by omega)
            clear hcs he hy
            go_wp2_with fail
            go_roundw
            case rel=>exact⟨k+1,y+2,_,by go_num,by first|rfl|go_num,rfl,by omega,HY2,Lib.hid (by rw [bytes_appB,HT'.out,HCS.out,mutes_step];simp),Lib.hid (by first|rfl|trivial)⟩
            case measure=>simp [RowKit.intOf];omega
          · have hq:(x==(i:Int))=false:=by simp [he]
            rw [if_neg he,Nat.add_zero] at hcs
            have HCS:=Lib.hid hcs
            clear hcs he hy
            go_wp2_with fail
            go_roundw
            case rel=>exact⟨k+1,y,t',by go_num,rfl,rfl,by omega,Lib.hid (HCS.out▸HY.out),Lib.hid (HCS.out▸HT'.out),Lib.hid (by first|rfl|trivial)⟩
            case measure=>simp [RowKit.intOf];omega
        · obtain rfl:k=len:=by omega
          have hta:ats.take k=ats:=List.take_of_length_le (by omega)
          rw [hta] at HT' hck hy
          have hbs:blSum (cntA ats) (i+1)=blSum (cntA ats) i+cntA ats i:=rfl
          have hw3:IntKind.i64.wrap ((i:Int)+1)=(i:Int)+1:=IntWalk.i64_in _ (by omega)
          have hw4:IntKind.i64.wrap ((i:Int)+1+(y:Int))=(i:Int)+1+(y:Int):=IntWalk.i64_in _ (by omega)
          obtain⟨u,hu⟩: ∃u,wk.cell? ⟨w2.heap.size,i,none⟩=some u:=⟨_,(HO4.out.cellAt i (by omega)).trans (List.getElem?_eq_getElem (by rw [whL_len];omega))⟩
          have hfz:=HO4.out.frozenAt i
          have hi2:(i:Int) < (n:Int)+1:=by omega
          have S1:=HO4.out.stored i (.int .i64 ((i:Int)+1+(y:Int)))
          have HB5:=Lib.hid (HB4.out.grown S1.2 (by have:=HB4.out.size;omega) (fun q hq=>by cases hq;exact Nat.le_refl _))
          have HO5:=Lib.hid (own_eq S1.1 rfl (whL_step (cntA ats) n i y hlt (by rw [hbs];omega)))
          have HAV:=Lib.hid (show y=2*blSum (cntA ats) (i+1) by rw [hbs];omega)
          have HW5:=Lib.hid (show∀q x,W[q]?=some x→ ∃g,Aw=some ⟨g,0,none⟩∧g< (wk.setCell ⟨w2.heap.size,i,none⟩ (.int .i64 ((i:Int)+1+(y:Int)))).heap.size∧(wk.setCell ⟨w2.heap.size,i,none⟩ (.int .i64 ((i:Int)+1+(y:Int)))).cell? ⟨g,q,none⟩=some (.string ⟨x.toArray⟩) from fun q x hx=>by
            obtain⟨g,e,h1,h2,h3⟩:=HWC.out q x hx
            exact⟨g,e,by simpa using h2,(World.cell?_of_block (Below.heap_setCell wk ⟨w2.heap.size,i,none⟩ _ g (by show g≠w2.heap.size;omega))).trans h3⟩)
          clear S1 hbs hy
          go_wp2_with fail
          generalize wk.setCell ⟨w2.heap.size,i,none⟩ (.int .i64 ((i:Int)+1+(y:Int)))=w5 at HB5 HO5 HW5⊢
          go_loopw [7,13] (fun ov kv wz=> ∃(q:Nat) (s:ByteArray),kv= .int .i64 q∧ov= .string s∧q≤m∧Hid (s.data.toList=blT (cntA ats) ls i++mutesL (cntA ats i)++spaced (W.take q))∧Hid (wz=w5)) (fun _ k _=>m - (RowKit.intOf k).toNat)
          case atStart=>exact⟨0,t',rfl,rfl,by omega,Lib.hid (by rw [HT'.out];simp [spaced]),Lib.hid (by first|rfl|trivial)⟩
          case round=>
            obtain⟨q,s,rfl,rfl,hq,HS,HWz⟩:=hrel
            obtain rfl:=HWz.out
            have htk:=spaced_take W q
            have hsz:s.size≤2000000+480+20000:=by rw [size_of HS.out,List.length_append,List.length_append,mutes_len];omega
            by_cases hqm:q<m
            · obtain⟨x,hx⟩: ∃x,W[q]?=some x:=⟨_,List.getElem?_eq_getElem (by rw [HWM.out];exact hqm)⟩
              obtain⟨gx,rfl,hgx,cx⟩:=HW5.out q x hx
              have hxl:x.length≤20000:=by
                have a:=spaced_take W (q+1)
                rw [spaced_snoc hx] at a
                simp at a
                omega
              have HSN:=Lib.hid (spaced_snoc hx)
              obtain⟨xb,hxb⟩: ∃b:ByteArray,(⟨x.toArray⟩:ByteArray)=b:=⟨_,rfl⟩
              have HXB:=Lib.hid (show xb.data.toList=x by rw [←hxb])
              have hxz:=size_of HXB.out
              rw [hxb] at cx
              have hs2: ¬(9223372036854775807<s.size+2):=by omega
              have hs3: ¬(9223372036854775807<s.size+2+xb.size):=by omega
              have hs4: ¬(9223372036854775807<s.size+2+xb.size+2):=by omega
              have hq0:(0:Int)≤(q:Int):=by omega
              have hq1:(q:Int) < (m:Int):=by omega
              clear hx hxb hxz htk hsz
              go_wp2_with fail
              go_roundw
              case rel=>exact⟨q+1,_,by go_num,rfl,by omega,Lib.hid (by rw [bytes_appB,bytes_appB,bytes_appB,HS.out,HSN.out,HXB.out];simp),Lib.hid (by first|rfl|trivial)⟩
              case measure=>simp [RowKit.intOf];omega
            · obtain rfl:q=m:=by omega
              have hWt:W.take q=W:=List.take_of_length_le (by rw [HWM.out];exact Nat.le_refl _)
              rw [hWt] at HS
              have hs1: ¬(9223372036854775807<s.size+1):=by omega
              clear hsz htk hWt
              go_wp2_with fail
              go_roundw
              case rel=>exact⟨i+1,y,_,by go_num,rfl,rfl,by omega,HAV,Lib.hid (by rw [bytes_appB,HS.out,HST.out]),HB5,HO5⟩
              case measure=>simp [RowKit.intOf];omega
    · obtain rfl:i=n:=by omega
      have hte:t.data.toList=joinL (blLines (cntA ats) 0 ls):=by
        have h:=HT.out
        unfold blT at h
        rw [List.take_of_length_le (by rw [HN.out];exact Nat.le_refl _)] at h
        exact h
      have hsu:=HSU.out i (Nat.le_refl _)
      have hzz:=HZ.out
      have hwn:IntKind.i64.wrap ((i:Int)+(z:Int))=(i:Int)+(z:Int):=IntWalk.i64_in _ (by omega)
      by_cases hbig:8000<i+2*blSum (cntA ats) i
      · have hd:decide ((i:Int)+(z:Int) >8000)=true:=by rw [decide_eq_true_eq];omega
        have HBr:=Lib.hid (HB2.out.trans (HB.out.mono HB2.out.size))
        clear hte
        go_wp2_with fail
        go_ret
        exact⟨rfl,HBr.out⟩
      have hd:decide ((i:Int)+(z:Int) >8000)=false:=by rw [decide_eq_false_iff_not];omega
      have hl10: ∀l∈ls,(10:UInt8)∉l:=fun l hl=>rl_no10 text.data.toList [] (by simp) l (by rw [HLS.out];exact hl)
      have htx:aLines text=ls.map bytesB:=by
        have h:=lines_list text
        rw [←rl_lines,HLS.out] at h
        rw [←h,List.map_map]
        conv=>lhs;rw [←List.map_id (aLines text)]
        exact List.map_congr_left fun x _=>by simp [bytesB]
      have hts:t.size≤262144:=by
        have a:=blT_len (cntA ats) ls i
        have b:=sumL_take ls i
        rw [size_of HT.out]
        omega
      have hal:aLines t=(blLines (cntA ats) 0 ls).map bytesB:=alines_join hte (bl_no10 _ _ hl10 0)
      have hll: ∀s∈aLines t,Mute s∨s.size≤65536:=by
        intro s hs
        rw [hal] at hs
        obtain⟨l,hl,rfl⟩:=List.mem_map.1 hs
        rcases bl_mem _ _ _ _ hl with e|e| ⟨l',hl',e⟩
        · rw [e];exact .inl mute_A
        · rw [e];exact .inl mute_B
        · refine .inr ?_
          have a:=spaced_le l'
          have b:=HLL.out l' hl'
          show l.toArray.size≤_
          rw [e]
          simp
          omega
      have hbp:=blank_plain checkF (cntA ats) ls hl10 text t htx hte (by omega) hts (by rw [HN.out];omega) (by rw [HN.out];omega)
      have hle:linOf (aAsm checkF text)≤i:=by
        cases hx:aAsm checkF text with
        |ok c=>exact Nat.zero_le _
        |error q=>
          have a:=asm_line_le checkF text (by omega) (by rw [htx,List.length_map,HN.out];omega) hx
          rw [htx,List.length_map,HN.out] at a
          exact a
      have HBP:=Lib.hid (show clsOf (aAsm checkF t)=clsOf (aAsm checkF text)∧errOf (aAsm checkF t)=errOf (aAsm checkF text)∧linOf (aAsm checkF t)=blF (cntA ats) (linOf (aAsm checkF text)) by
        rw [hbp]
        cases aAsm checkF text<;>exact⟨rfl,rfl,rfl⟩)
      have HBr:=Lib.hid (HB2.out.trans (HB.out.mono HB2.out.size))
      have hA1:=(asm_ans text mx wo ((HBr.out.cell (p:=⟨Tryz.maxB,0,none⟩) hxw).trans HMX.out) (by omega) (fun s hs=> .inr (Nat.le_trans (line_le hs) (by omega))))
      have HA2:=Lib.hid (fun W (hW:Below wo.heap.size wo W)=>asm_ans t mx W ((hW.cell (p:=⟨Tryz.maxB,0,none⟩) (Nat.lt_of_lt_of_le hxw HBr.out.size)).trans ((HBr.out.cell (p:=⟨Tryz.maxB,0,none⟩) hxw).trans HMX.out)) (by omega) hll)
      obtain⟨pp,hpp⟩: ∃p,aAsm checkF text=p:=⟨_,rfl⟩
      obtain⟨pq,hpq⟩: ∃p,aAsm checkF t=p:=⟨_,rfl⟩
      rw [hpp,hpq] at HBP
      rw [hpp] at hA1 hle
      rw [hpq] at HA2
      have HA1:=Lib.hid hA1
      clear hpp hpq hA1 hbp hll hal hts htx hl10 hte
      go_wp2_with (go_at_call 9;refine stop_here ?_)
      refine go_on ?_
      refine HA1.out.mono ?_
      rintro e w5 ⟨hb5,a11,a21,a31,a41,hc5,rfl⟩
      obtain⟨cc,hcc⟩: ∃c,clsOf pp=c:=⟨_,rfl⟩
      obtain⟨er,her⟩: ∃x,errOf pp=x:=⟨_,rfl⟩
      obtain⟨L,hL⟩: ∃x,linOf pp=x:=⟨_,rfl⟩
      obtain⟨f,hf⟩: ∃x,blF (cntA ats) L=x:=⟨_,rfl⟩
      have hBP:=HBP.out
      rw [hcc,her,hL,hf] at hBP
      obtain⟨q1,q2,q3⟩:=hBP
      rw [hcc,her,hL]
      rw [hcc] at hc5
      rw [hL] at hle
      obtain⟨P1,p1,rfl,_,_⟩:=sl_len hc5.hpool
      obtain⟨I1,i1,rfl,_,_⟩:=sl_len hc5.hifs
      obtain⟨F1,f1,rfl,_,_⟩:=sl_len hc5.hflds
      obtain⟨M1,m1,rfl⟩: ∃A k,a41= .slice A cc.mths.length k:=by
        obtain⟨ms,e1,s1,r1⟩:=hc5.hmths
        obtain⟨A,k,e,_,_⟩:=sl_len s1
        exact⟨A,k,e⟩
      have HC5:=Lib.hid hc5
      have HB5:=Lib.hid hb5
      have hz5:=hb5.size
      have HQ:=Lib.hid (And.intro q1 (And.intro q2 q3))
      have HFF:=Lib.hid hf
      clear hc5 hb5 hcc her hL HA1 q1 q2 q3 hf HBP
      have XZ1:=Lib.hid (bx_new w5 zeroA 28)
      go_wp2_with (refine wpList_store_row rfl _ _ _ rfl w5.heap.size (cc.cells (.slice P1 cc.pool.length p1) (.slice I1 cc.ifs.length i1) (.slice F1 cc.flds.length f1) (.slice M1 cc.mths.length m1)).toArray rfl rfl _ _ XZ1.out (by kernel_rfl) rfl (by simp [ClassV.cells,Value.oneCell']) ?_;refine stop_here ?_)
      refine go_on ?_
      obtain⟨w6,hw6⟩: ∃W,W=(w5.alloc (.cells #[.int .i64 0, .int .i64 0, .slice none 0 0, .int .i64 0, .int .i64 0, .int .i64 0, .slice none 0 0, .slice none 0 0, .slice none 0 0] 28)).setRow w5.heap.size (cc.cells (.slice P1 cc.pool.length p1) (.slice I1 cc.ifs.length i1) (.slice F1 cc.flds.length f1) (.slice M1 cc.mths.length m1)).toArray:=⟨_,rfl⟩
      rw [←hw6]
      have XA1:=Lib.hid (show Bx w6 w5.heap.size (cc.cells (.slice P1 cc.pool.length p1) (.slice I1 cc.ifs.length i1) (.slice F1 cc.flds.length f1) (.slice M1 cc.mths.length m1)) 28 by rw [hw6];exact XZ1.out.row _)
      have hBw6:Below w5.heap.size w5 w6:=by rw [hw6];exact below_rowA ((Below.refl _ _).alloc (Nat.le_refl _) _) _ _ (Nat.le_refl _)
      clear hw6 XZ1
      have HB6:=Lib.hid (HB5.out.trans (hBw6.mono hz5))
      have HC6:=Lib.hid (HC5.out.keep (Kept.of_below hBw6))
      have hz6:=HB6.out.size
      clear hBw6 HC5
      go_wp2_with (go_at_call 9;refine stop_here ?_)
      refine go_on ?_
      refine(HA2.out w6 HB6.out).mono ?_
      rintro e w7 ⟨hb7,a12,a22,a32,a42,hc7,rfl⟩
      rw [HQ.out.1] at hc7
      rw [HQ.out.1,HQ.out.2.1,HQ.out.2.2]
      obtain⟨P2,p2,rfl,_,_⟩:=sl_len hc7.hpool
      obtain⟨I2,i2,rfl,_,_⟩:=sl_len hc7.hifs
      obtain⟨F2,f2,rfl,_,_⟩:=sl_len hc7.hflds
      obtain⟨M2,m2,rfl⟩: ∃A k,a42= .slice A cc.mths.length k:=by
        obtain⟨ms,e1,s1,r1⟩:=hc7.hmths
        obtain⟨A,k,e,_,_⟩:=sl_len s1
        exact⟨A,k,e⟩
      have HC7:=Lib.hid hc7
      have HC61:=Lib.hid (HC6.out.keep (Kept.of_below hb7))
      have HB7:=Lib.hid (HB6.out.trans (hb7.mono hz6))
      have XA7:=Lib.hid (XA1.out.below hb7 XA1.out.lt)
      have hz7:=HB7.out.size
      clear hc7 hb7 HA2 HC6 XA1
      have XZ2:=Lib.hid (bx_new w7 zeroA 28)
      go_wp2_with (refine wpList_store_row rfl _ _ _ rfl w7.heap.size (cc.cells (.slice P2 cc.pool.length p2) (.slice I2 cc.ifs.length i2) (.slice F2 cc.flds.length f2) (.slice M2 cc.mths.length m2)).toArray rfl rfl _ _ XZ2.out (by kernel_rfl) rfl (by simp [ClassV.cells,Value.oneCell']) ?_;refine stop_here ?_)
      refine go_on ?_
      obtain⟨w8,hw8⟩: ∃W,W=(w7.alloc (.cells #[.int .i64 0, .int .i64 0, .slice none 0 0, .int .i64 0, .int .i64 0, .int .i64 0, .slice none 0 0, .slice none 0 0, .slice none 0 0] 28)).setRow w7.heap.size (cc.cells (.slice P2 cc.pool.length p2) (.slice I2 cc.ifs.length i2) (.slice F2 cc.flds.length f2) (.slice M2 cc.mths.length m2)).toArray:=⟨_,rfl⟩
      rw [←hw8]
      have XA2:=Lib.hid (show Bx w8 w7.heap.size (cc.cells (.slice P2 cc.pool.length p2) (.slice I2 cc.ifs.length i2) (.slice F2 cc.flds.length f2) (.slice M2 cc.mths.length m2)) 28 by rw [hw8];exact XZ2.out.row _)
      have hBw8:Below w7.heap.size w7 w8:=by rw [hw8];exact below_rowA ((Below.refl _ _).alloc (Nat.le_refl _) _) _ _ (Nat.le_refl _)
      clear hw8 XZ2
      have HB8:=Lib.hid (HB7.out.trans (hBw8.mono hz7))
      have X8:=Lib.hid (XA7.out.below hBw8 XA7.out.lt)
      have HS8:=Lib.hid (class_same cc _ _ _ _ _ _ _ _ _ _ w8 (HC61.out.keep (Kept.of_below hBw8)) (HC7.out.keep (Kept.of_below hBw8)))
      have hlt7:=XA7.out.lt
      clear hBw8 XA7 HC7 HC61
      have HBf:=Lib.hid (HBr.out.trans (HB8.out.mono HBr.out.size))
      unfold bookV at HS8
      have m0:=X8.out.cell 0 rfl
      have m1:=X8.out.cell 1 rfl
      have m2:=X8.out.cell 2 rfl
      have m3:=X8.out.cell 3 rfl
      have m4:=X8.out.cell 4 rfl
      have m5:=X8.out.cell 5 rfl
      have m6:=X8.out.cell 6 rfl
      have m7:=X8.out.cell 7 rfl
      have m8:=X8.out.cell 8 rfl
      have n0:=XA2.out.cell 0 rfl
      have n1:=XA2.out.cell 1 rfl
      have n2:=XA2.out.cell 2 rfl
      have n3:=XA2.out.cell 3 rfl
      have n4:=XA2.out.cell 4 rfl
      have n5:=XA2.out.cell 5 rfl
      have n6:=XA2.out.cell 6 rfl
      have n7:=XA2.out.cell 7 rfl
      have n8:=XA2.out.cell 8 rfl
      by_cases hL0:L=0
      · subst hL0
        obtain rfl:f=0:=HFF.out.symm
        go_wp2_with (first| (go_at_call 11;refine(num_any _ _).mono ?_;rintro e w9 ⟨rfl,rfl⟩) | (go_at_call 12;refine HS8.out.mono ?_;rintro e w9 ⟨rfl,hb9⟩;have HB9:=Lib.hid (HBf.out.trans (hb9.mono HBf.out.size));clear hb9))
        go_ret
        exact⟨rfl,HB9.out⟩
      · have hd1:decide ((L:Int) >0)=true:=by rw [decide_eq_true_eq];omega
        have hd2:decide ((L:Int)≤(i:Int))=true:=by rw [decide_eq_true_eq];omega
        have hwl:IntKind.i64.wrap ((L:Int) - 1)=((L - 1:Nat):Int):=by rw [IntWalk.i64_in _ (by omega)];omega
        have hl0:(0:Int)≤((L - 1:Nat):Int):=by omega
        have hl1:((L - 1:Nat):Int) < (i:Int)+1:=by omega
        have cw:w8.cell? ⟨w2.heap.size,L - 1,none⟩=some (.int .i64 (f:Int)):=by
          refine(HB8.out.cell (p:=⟨w2.heap.size,L - 1,none⟩) (HO.out.lt _ rfl).2).trans ?_
          rw [HO.out.cellAt (L - 1) (by omega),whL_at _ _ _ (by omega),show L - 1+1=L by omega,HFF.out]
        obtain⟨K,hK⟩: ∃K,L - 1=K:=⟨_,rfl⟩
        rw [hK] at hwl hl0 hl1 cw
        clear hK
        go_wp2_with (first| (go_at_call 11;refine(num_any _ _).mono ?_;rintro e w9 ⟨rfl,rfl⟩) | (go_at_call 12;refine HS8.out.mono ?_;rintro e w9 ⟨rfl,hb9⟩;have HB9:=Lib.hid (HBf.out.trans (hb9.mono HBf.out.size));clear hb9))
        go_ret
        exact⟨rfl,HB9.out⟩
end Go.Proofs.YtlcidkiplidamaaGreatDoor
