/-
  What the laws rest on, part 7: walks of the program's functions and plain laws. Conditions: none but those that each theorem names.
-/
import Derived.Test.YtpbnjakeielipaaGreatDoorB06
import Derived.WalkMore
import Derived.ScopeJumps
set_option linter.unusedSimpArgs false
set_option linter.unusedVariables false
set_option maxRecDepth 100000
set_option maxHeartbeats 2000000
namespace Go.Proofs.YtpbnjakeielipaaGreatDoor
open Go Go.RowKit Lib Go.Maps
def ifsE (pool:List Ko):List Int→List (List UInt8)→Int→Int
 | [],_,e=>e
 |n::r,seen,e=>if e≠0 then e else
  ifsE pool r (((nameAt pool n).getD ⟨#[]⟩).data.toList::seen) (if(nameAt pool n).isSome=false then 20 else if((nameAt pool n).getD ⟨#[]⟩).data.toList∈seen then 24 else 0)
def headE (c:ClassV):Int:=ifsE c.pool c.ifs [] (rulesE (missB c.pool c.this) (missB c.pool c.sup) (headBad c.acc (nameAt c.pool c.sup)))
def seenF (seen:List (List UInt8)):List UInt8→Option Value:=fun s=>if s∈seen then some (.int .i64 (seen.count s)) else none
theorem seenF_put (seen:List (List UInt8)) (s:List UInt8):putF (seenF seen) s (.int .i64 ((seen.count s:Int)+1))=seenF (s::seen):=by
 funext x
 unfold putF seenF
 by_cases hx:x=s
 ·subst hx
  simp
 ·simp [hx,List.count_cons,Ne.symm hx]
theorem seenF_get (seen:List (List UInt8)) (s:List UInt8):(seenF seen s).getD (.int .i64 0)= .int .i64 (seen.count s):=by
 unfold seenF
 by_cases h:s∈seen
 ·simp [h]
 ·simp [h,List.count_eq_zero.2 h]
theorem zeroI (w:World):(zeroValue 3).run Tryz.prog w= .ok (.int .i64 0) w:=by kernel_rfl
theorem textAt_size {pool:List Ko} {n:Int} {s:ByteArray} (h:textAt pool n=some s) (ht: ∀k∈pool,k.text.size≤65536):s.size≤65536:=by
 unfold textAt at h
 rcases hk:kindAt pool n 1 with _|k
 ·rw [hk] at h
  cases h
 ·rw [hk] at h
  injection h with h
  subst h
  exact ht k (kindAt_mem hk).1
theorem nameAt_size {pool:List Ko} {n:Int} (ht: ∀k∈pool,k.text.size≤65536):((nameAt pool n).getD ⟨#[]⟩).size≤65536:=by
 rcases hs:nameAt pool n with _|s
 ·exact Nat.zero_le _
 ·unfold nameAt at hs
  rcases hk:kindAt pool n 7 with _|k
  ·rw [hk] at hs
   cases hs
  ·rw [hk] at hs
   exact textAt_size hs ht
theorem ifsE_stop (pool:List Ko) (n:Int) (r:List Int) (seen:List (List UInt8)) (e:Int) (h:e≠0):ifsE pool (n::r) seen e=e:=by rw [ifsE,if_pos h]
theorem ifsE_go (pool:List Ko) (n:Int) (r:List Int) (seen:List (List UInt8)):ifsE pool (n::r) seen 0=ifsE pool r (((nameAt pool n).getD ⟨#[]⟩).data.toList::seen) (if(nameAt pool n).isSome=false then 20 else if((nameAt pool n).getD ⟨#[]⟩).data.toList∈seen then 24 else 0):=by rw [ifsE,if_neg (by simp)]
theorem SlAt.turned {w w':World} {P:Program} {k:TypeId} {b m sz:Nat} {f:List UInt8→Option Value} {ok:Nat→Prop} {size n:Nat} {cells:List Value} {v:Value} (h:SlAt w ok size n cells v) (hs:0<size) (hg:w.grownBy w' (some b)) (hM:MapS w P k b m f sz):SlAt w' ok size n cells v:=by
 obtain⟨A,cap,rfl,h1,h2,h3,h4⟩:=h
 refine⟨A,cap,rfl,h1,h2,h3,fun h0=> ?_⟩
 obtain⟨g,off,e,hlt,ho,hc⟩:=h4 h0
 refine⟨g,off,e,Nat.lt_of_lt_of_le hlt hg.size,ho,fun j u hu=> ?_⟩
 have h5:=hc j u hu
 have hne:g≠b:=fun e=>by
  subst e
  rw [hM.no_cell] at h5
  cases h5
 rw [World.cell?_of_block (w:=w) (hg.block g hlt (fun e=>hne (by injection e)))]
 exact h5
theorem BookOk.turned {w w':World} {P:Program} {k:TypeId} {b m sz:Nat} {f:List UInt8→Option Value} {ok:Nat→Prop} {c:ClassV} {A:Option Addr} {cap:Nat} {ifs flds mths:Value} (h:BookOk w ok c A cap ifs flds mths) (hg:w.grownBy w' (some b)) (hM:MapS w P k b m f sz):BookOk w' ok c A cap ifs flds mths:=
 ⟨h.hp.turned (by omega) hg hM,h.h1,h.h2,h.h3⟩
theorem head_any (c:ClassV) (A:Option Addr) (cap:Nat) (ifs flds mths:Value) (ok:Nat→Prop) (w:World) (h:BookOk w ok c A cap ifs flds mths) (hi:SlAt w ok 1 c.ifs.length (c.ifs.map (Value.int .i64)) ifs) (hn1:Fine c.this) (hn2:Fine c.sup) (hf: ∀k∈c.pool,Fine k.a) (hfi: ∀n∈c.ifs,Fine n) (hft: ∀k∈c.pool,k.text.size≤65536):
  Calls Tryz.prog 128 #[bookV c (.slice A c.pool.length cap) ifs flds mths] w fun e w'=>e= .returned (.int .i64 (headE c))∧Below w.heap.size w w':=by
 have hmf: ∀(fn:Fn) (first cap:Array Value) (w:World),(Instr.makeFunc fn first cap).run Tryz.prog w= .ok (.func fn first cap) w:=fun _ _ _ _=>rfl
 have hmm:= @run_makeMap Tryz.prog
 have H0:=Lib.hid (h.below ((Below.refl _ _).alloc (Nat.le_refl _) (.cells #[.int .i64 c.minor, .int .i64 c.major, .slice A c.pool.length cap, .int .i64 c.acc, .int .i64 c.this, .int .i64 c.sup,ifs,flds,mths] 248)))
 have X0:=Lib.hid (bx_new w [.int .i64 c.minor, .int .i64 c.major, .slice A c.pool.length cap, .int .i64 c.acc, .int .i64 c.this, .int .i64 c.sup,ifs,flds,mths] 248)
 have HI:=Lib.hid hi
 have HN1:=Lib.hid hn1
 have HN2:=Lib.hid hn2
 have HF:=Lib.hid hf
 have HFI:=Lib.hid hfi
 have HFT:=Lib.hid hft
 obtain⟨A2,cap2,rfl,hc2,hm2,hl2,_⟩:=hi
 clear h hn1 hn2 hf hfi hl2 hft
 rw [bookV_open]
 go_enter Tryz.func128,Tryz.ntmps128
 go_wp2_with (go_at_call 112;refine stop_here ?_)
 refine go_on ?_
 refine(name_book c A cap _ flds mths c.sup ok _ H0.out HN2.out HF.out).mono ?_
 rintro e w1 ⟨rfl,hb⟩
 simp only [optV]
 have hz1:=hb.size
 simp at hz1
 have HB1:=Lib.hid hb
 have X1:=Lib.hid (X0.out.below hb (by simp))
 have H1:=Lib.hid (H0.out.below hb)
 clear hb
 obtain⟨x1,x2,x3,x4,x5,x6,x7,x8,x9,x10,x11,x12⟩:=far w.heap.size w1.heap.size (by omega)
 have c0:=X1.out.cell 0 rfl
 have c1:=X1.out.cell 1 rfl
 have c2:=X1.out.cell 2 rfl
 have c3:=X1.out.cell 3 rfl
 have c4:=X1.out.cell 4 rfl
 have c5:=X1.out.cell 5 rfl
 have c6:=X1.out.cell 6 rfl
 have c7:=X1.out.cell 7 rfl
 have c8:=X1.out.cell 8 rfl
 go_wp2_with (go_at_call 142;refine stop_here ?_)
 refine go_on ?_
 obtain⟨e1,he1⟩: ∃e,rulesE (missB c.pool c.this) (missB c.pool c.sup) (headBad c.acc (nameAt c.pool c.sup))=e:=⟨_,rfl⟩
 have HE1:=Lib.hid (show headE c=ifsE c.pool (c.ifs.drop 0) [] e1 by unfold headE;rw [he1];rfl)
 have HW2:=Lib.hid ((((Below.refl w1.heap.size w1).alloc (Nat.le_refl _) (.cells #[.string ((nameAt c.pool c.sup).getD ⟨#[]⟩)] 9)).alloc (by simp) (.cells #[.bool (nameAt c.pool c.sup).isSome] 4)).alloc (by simp;omega) (.cells (rulesV (w1.heap.size+1) w1.heap.size).toArray 275))
 refine(first_book c A cap _ flds mths ok _ (H1.out.below HW2.out) HN1.out HN2.out (w1.heap.size+1+1) (w1.heap.size+1) w1.heap.size (nameAt c.pool c.sup) 275 (bx_new_at _ (rulesV (w1.heap.size+1) w1.heap.size) _ _ (by simp)) (by simp [go_sem]) (by simp [go_sem]) (by first| (simp;done) | (simp;omega)) (by first| (simp;done) | (simp;omega))).mono ?_
 rw [he1]
 rintro e w2 ⟨rfl,hb2⟩
 have hz2:=hb2.size
 simp at hz2
 have HB2:=Lib.hid (((((Below.refl w.heap.size w).alloc (Nat.le_refl _) _).trans (HB1.out.mono (by simp))).trans (HW2.out.mono (by omega))).trans (hb2.mono (by simp;omega)))
 have X2:=Lib.hid ((X1.out.below HW2.out (by omega)).below hb2 (by simp;omega))
 have H2:=Lib.hid ((H1.out.below HW2.out).below hb2)
 clear hb2 he1 c0 c1 c2 c3 c4 c5 c6 c7 c8 x1 x2 x3 x4 x5 x6 x7 x8 x9 x10 x11 x12
 obtain⟨x1,x2,x3,x4,x5,x6,x7,x8,x9,x10,x11,x12⟩:=far w.heap.size w2.heap.size (by omega)
 have c6:=X2.out.cell 6 rfl
 go_wp2_with fail
 have HM3:=Lib.hid (show MapS (w2.alloc (.map #[] 0)) Tryz.prog 9 w2.heap.size 0 (seenF []) 0 by
  have e:seenF []=fun _=>none:=by funext s;simp [seenF]
  rw [e]
  exact mapS_made w2 Tryz.prog 9)
 have HB3:=Lib.hid (HB2.out.alloc (by omega) (.map #[] 0))
 have X3:=Lib.hid (X2.out.below ((Below.refl _ _).alloc (Nat.le_refl _) (.map #[] 0)) X2.out.lt)
 have H3:=Lib.hid (H2.out.below ((Below.refl _ _).alloc (Nat.le_refl _) (.map #[] 0)))
 have hz3:w2.heap.size< (w2.alloc (.map #[] 0)).heap.size:=by simp
 clear c6
 go_loopw [5,31] (fun ev i wr=> ∃(k:Nat) (seen:List (List UInt8)) (e:Int) (nm sz:Nat),k≤c.ifs.length∧i= .int .i64 k∧ev= .int .i64 e∧nm≤k∧Hid (MapS wr Tryz.prog 9 w2.heap.size nm (seenF seen) sz)∧Hid (Below w.heap.size w wr)∧Hid (Bx wr w.heap.size [.int .i64 c.minor, .int .i64 c.major, .slice A c.pool.length cap, .int .i64 c.acc, .int .i64 c.this, .int .i64 c.sup, .slice A2 c.ifs.length cap2,flds,mths] 248)∧Hid (BookOk wr ok c A cap (.slice A2 c.ifs.length cap2) flds mths)∧Hid (headE c=ifsE c.pool (c.ifs.drop k) seen e)∧w2.heap.size<wr.heap.size∧Hid (seen.length=k)) (fun _ i _=>c.ifs.length - (RowKit.intOf i).toNat)
 case atStart=>exact⟨0, [],e1,0,0,by omega,rfl,rfl,by omega,HM3,HB3,X3,H3,HE1,hz3,Lib.hid rfl⟩
 case round=>
  obtain⟨k,seen,e,nm,sz,hk,rfl,rfl,hnm,HMr,HBr,Xr,Hr,HEr,hzr,HLr⟩:=hrel
  by_cases hlt:k<c.ifs.length
  ·obtain⟨n,hn⟩: ∃n,c.ifs[k]?=some n:=⟨_,List.getElem?_eq_getElem hlt⟩
   have HDR:=Lib.hid (show c.ifs.drop k=n::c.ifs.drop (k+1) by
    rw [List.drop_eq_getElem_cons hlt]
    congr 1
    rw [List.getElem?_eq_getElem hlt] at hn
    injection hn)
   have HNF:=Lib.hid (HFI.out n (List.mem_of_getElem? hn))
   obtain⟨A',cap',ev,_,_,_,h5⟩:=HI.out.keep (Kept.of_below HBr.out)
   cases ev
   obtain⟨b,off,rfl,hbl,_,hc⟩:=h5 (by omega)
   have cn:=hc k (.int .i64 n) (by rw [List.getElem?_map,hn];rfl)
   clear hn hc h5
   by_cases he:e=0
   ·subst he
    have c0:=Xr.out.cell 0 rfl
    have c1:=Xr.out.cell 1 rfl
    have c2:=Xr.out.cell 2 rfl
    have c3:=Xr.out.cell 3 rfl
    have c4:=Xr.out.cell 4 rfl
    have c5:=Xr.out.cell 5 rfl
    have c6:=Xr.out.cell 6 rfl
    have c7:=Xr.out.cell 7 rfl
    have c8:=Xr.out.cell 8 rfl
    go_wp2_with (go_at_call 112;refine stop_here ?_)
    refine go_on ?_
    clear c0 c1 c2 c3 c4 c5 c6 c7 c8
    refine(name_book c A cap _ flds mths n ok _ Hr.out HNF.out HF.out).mono ?_
    rintro e w4 ⟨rfl,hb4⟩
    simp only [optV]
    have hz4:=hb4.size
    have HM4:=Lib.hid (HMr.out.keep (hb4.block _ hzr))
    have HB4:=Lib.hid (HBr.out.trans (hb4.mono (by omega)))
    have X4:=Lib.hid (Xr.out.below hb4 Xr.out.lt)
    have H4:=Lib.hid (Hr.out.below hb4)
    have hsz:((nameAt c.pool n).getD ⟨#[]⟩).size≤maxLen:=by have:=nameAt_size (n:=n) HFT.out;unfold maxLen;omega
    have HE4:=HEr.out
    rw [HDR.out,ifsE_go] at HE4
    have HE4:=Lib.hid HE4
    obtain⟨sv,hsv⟩: ∃s,(nameAt c.pool n).getD ⟨#[]⟩=s:=⟨_,rfl⟩
    obtain⟨kv,hkv⟩: ∃b,(nameAt c.pool n).isSome=b:=⟨_,rfl⟩
    rw [hsv,hkv] at HE4
    rw [hsv] at hsz
    rw [hsv,hkv]
    clear hb4 hsv hkv
    have hcb:seen.count sv.data.toList≤1048576:=Nat.le_trans List.count_le_length (by have:=HLr.out;omega)
    cases kv with
    |false=>
     have HE4:=Lib.hid (show headE c=ifsE c.pool (c.ifs.drop (k+1)) (sv.data.toList::seen) 20 from HE4.out.trans (by rw [if_pos rfl]))
     go_wp2_with (first
 | (at_lookup;refine wpl_get rfl _ _ rfl Tryz.underlying9 Tryz.underlying69 (zeroI _) rfl HM4.out rfl hsz ?_;rw [seenF_get])
 | (at_mapUpdate;refine wpl_put (u:= .int .i64 ((seen.count sv.data.toList:Int)+1)) rfl _ _ _ rfl Tryz.underlying9 Tryz.underlying69 rfl HM4.out (by unfold maxLen;omega) rfl hsz rfl ?_;intro w5 hm5 hg5;refine stop_here ?_))
     rw [seenF_put] at hm5
     have HM5:=Lib.hid (show∃sz',MapS w5 Tryz.prog 9 w2.heap.size (nm+1) (seenF (sv.data.toList::seen)) sz' from⟨_,hm5⟩)
     have HB5:=Lib.hid (HB4.out.grown hg5 (by omega) (fun q hq=>by injection hq with hq;omega))
     have X5:=Lib.hid ((hg5.block _ X4.out.lt (fun e=>by injection e with e;omega)).trans X4.out)
     have H5:=Lib.hid (H4.out.turned hg5 HM4.out)
     have hz5:=hg5.size
     clear hm5 hg5
     obtain⟨sz5,hm5⟩:=HM5.out
     have HM5':=Lib.hid hm5
     clear hm5
     refine go_on ?_
     go_wp2_with fail
     go_roundw
     case rel=>exact⟨k+1,sv.data.toList::seen,20,nm+1,sz5,by omega,by go_num,rfl,by omega,HM5',HB5,X5,H5,HE4,by omega,Lib.hid (by simp [HLr.out])⟩
     case measure=>simp [RowKit.intOf];omega
    |true=>
     by_cases hin:sv.data.toList∈seen
     ·have HE4:=Lib.hid (show headE c=ifsE c.pool (c.ifs.drop (k+1)) (sv.data.toList::seen) 24 from HE4.out.trans (by rw [if_neg (by simp),if_pos hin]))
      have hcnt:0<seen.count sv.data.toList:=List.count_pos_iff.2 hin
      clear hin
      go_wp2_with (first
 | (at_lookup;refine wpl_get rfl _ _ rfl Tryz.underlying9 Tryz.underlying69 (zeroI _) rfl HM4.out rfl hsz ?_;rw [seenF_get])
 | (at_mapUpdate;refine wpl_put (u:= .int .i64 ((seen.count sv.data.toList:Int)+1)) rfl _ _ _ rfl Tryz.underlying9 Tryz.underlying69 rfl HM4.out (by unfold maxLen;omega) rfl hsz rfl ?_;intro w5 hm5 hg5;refine stop_here ?_))
      rw [seenF_put] at hm5
      have HM5:=Lib.hid (show∃sz',MapS w5 Tryz.prog 9 w2.heap.size (nm+1) (seenF (sv.data.toList::seen)) sz' from⟨_,hm5⟩)
      have HB5:=Lib.hid (HB4.out.grown hg5 (by omega) (fun q hq=>by injection hq with hq;omega))
      have X5:=Lib.hid ((hg5.block _ X4.out.lt (fun e=>by injection e with e;omega)).trans X4.out)
      have H5:=Lib.hid (H4.out.turned hg5 HM4.out)
      have hz5:=hg5.size
      clear hm5 hg5
      obtain⟨sz5,hm5⟩:=HM5.out
      have HM5':=Lib.hid hm5
      clear hm5
      refine go_on ?_
      go_wp2_with fail
      go_roundw
      case rel=>exact⟨k+1,sv.data.toList::seen,24,nm+1,sz5,by omega,by go_num,rfl,by omega,HM5',HB5,X5,H5,HE4,by omega,Lib.hid (by simp [HLr.out])⟩
      case measure=>simp [RowKit.intOf];omega
     ·have HE4:=Lib.hid (show headE c=ifsE c.pool (c.ifs.drop (k+1)) (sv.data.toList::seen) 0 from HE4.out.trans (by rw [if_neg (by simp),if_neg hin]))
      have hcnt: ¬0<seen.count sv.data.toList:=by rw [List.count_eq_zero.2 hin];omega
      clear hin
      go_wp2_with (first
 | (at_lookup;refine wpl_get rfl _ _ rfl Tryz.underlying9 Tryz.underlying69 (zeroI _) rfl HM4.out rfl hsz ?_;rw [seenF_get])
 | (at_mapUpdate;refine wpl_put (u:= .int .i64 ((seen.count sv.data.toList:Int)+1)) rfl _ _ _ rfl Tryz.underlying9 Tryz.underlying69 rfl HM4.out (by unfold maxLen;omega) rfl hsz rfl ?_;intro w5 hm5 hg5;refine stop_here ?_))
      rw [seenF_put] at hm5
      have HM5:=Lib.hid (show∃sz',MapS w5 Tryz.prog 9 w2.heap.size (nm+1) (seenF (sv.data.toList::seen)) sz' from⟨_,hm5⟩)
      have HB5:=Lib.hid (HB4.out.grown hg5 (by omega) (fun q hq=>by injection hq with hq;omega))
      have X5:=Lib.hid ((hg5.block _ X4.out.lt (fun e=>by injection e with e;omega)).trans X4.out)
      have H5:=Lib.hid (H4.out.turned hg5 HM4.out)
      have hz5:=hg5.size
      clear hm5 hg5
      obtain⟨sz5,hm5⟩:=HM5.out
      have HM5':=Lib.hid hm5
      clear hm5
      refine go_on ?_
      go_wp2_with fail
      go_roundw
      case rel=>exact⟨k+1,sv.data.toList::seen,0,nm+1,sz5,by omega,by go_num,rfl,by omega,HM5',HB5,X5,H5,HE4,by omega,Lib.hid (by simp [HLr.out])⟩
      case measure=>simp [RowKit.intOf];omega
   ·have HR:=Lib.hid (show headE c=e by rw [HEr.out,HDR.out];exact ifsE_stop _ _ _ _ _ he)
    have heb:(e !=0)=true:=by simp [he]
    clear he
    go_wp2_with fail
    go_ret
    exact⟨by rw [HR.out];rfl,HBr.out⟩
  ·have hkk:k=c.ifs.length:=by omega
   have HR:=Lib.hid (show headE c=e by rw [HEr.out,hkk,List.drop_length];rfl)
   go_wp2_with fail
   go_ret
   exact⟨by rw [HR.out];rfl,HBr.out⟩
end Go.Proofs.YtpbnjakeielipaaGreatDoor
namespace Go.Proofs.YtpbnjakeielipaaGreatDoor
open Go Go.RowKit Lib
def longM (m:MethV):Bool:=decide (64<m.traps.length) ||decide (4096<m.code.length)
def longC (c:ClassV):Bool:=decide (1024<c.pool.length) ||decide (64<c.ifs.length) ||decide (64<c.flds.length) ||decide (64<c.mths.length) ||c.mths.any longM
theorem sl_len {w:World} {ok:Nat→Prop} {size n:Nat} {cells:List Value} {v:Value} (h:SlAt w ok size n cells v): ∃A cap,v= .slice A n cap∧n≤cap∧n≤1048576:=by
 obtain⟨A,cap,e,h1,h2,_⟩:=h
 exact⟨A,cap,e,h1,h2⟩
theorem long_rows (c:ClassV) (p i f m:Value) (ok:Nat→Prop) (w:World) (h:ClassAt w ok c p i f m) (hl:1024<c.pool.length∨64<c.ifs.length∨64<c.flds.length∨64<c.mths.length):
  Calls Tryz.prog 126 #[bookV c p i f m] w fun e w'=>e= .returned (.bool true)∧Below w.heap.size w w':=by
 obtain⟨A1,k1,rfl,q1,z1⟩:=sl_len h.hpool
 obtain⟨A2,k2,rfl,q2,z2⟩:=sl_len h.hifs
 obtain⟨A3,k3,rfl,q3,z3⟩:=sl_len h.hflds
 obtain⟨_,_,h4,_⟩:=h.hmths
 obtain⟨A4,k4,rfl,q4,z4⟩:=sl_len h4
 clear h h4
 have HW:=Lib.hid ((Below.refl w.heap.size w).alloc (Nat.le_refl _) (.cells #[.int .i64 c.minor, .int .i64 c.major, .slice A1 c.pool.length k1, .int .i64 c.acc, .int .i64 c.this, .int .i64 c.sup, .slice A2 c.ifs.length k2, .slice A3 c.flds.length k3, .slice A4 c.mths.length k4] 104))
 rw [bookV_open]
 generalize c.pool.length=n1 at*
 generalize c.ifs.length=n2 at*
 generalize c.flds.length=n3 at*
 generalize c.mths.length=n4 at*
 by_cases h1:1024<n1
 ·clear hl
  go_enter Tryz.func126,Tryz.ntmps126
  go_wp2
  go_ret
  exact⟨rfl,HW.out⟩
 ·by_cases h2:64<n2
  ·clear hl
   go_enter Tryz.func126,Tryz.ntmps126
   go_wp2
   go_ret
   exact⟨rfl,HW.out⟩
  ·by_cases h3:64<n3
   ·clear hl
    go_enter Tryz.func126,Tryz.ntmps126
    go_wp2
    go_ret
    exact⟨rfl,HW.out⟩
   ·have h4:64<n4:=by omega
    clear hl
    go_enter Tryz.func126,Tryz.ntmps126
    go_wp2
    go_ret
    exact⟨rfl,HW.out⟩
theorem long_meths (c:ClassV) (p i f m:Value) (ok:Nat→Prop) (w:World) (h:ClassAt w ok c p i f m) (hl1:c.pool.length≤1024) (hl2:c.ifs.length≤64) (hl3:c.flds.length≤64) (hl4:c.mths.length≤64):
  Calls Tryz.prog 126 #[bookV c p i f m] w fun e w'=>e= .returned (.bool (c.mths.any longM))∧Below w.heap.size w w':=by
 obtain⟨A1,k1,rfl,q1,z1⟩:=sl_len h.hpool
 obtain⟨A2,k2,rfl,q2,z2⟩:=sl_len h.hifs
 obtain⟨A3,k3,rfl,q3,z3⟩:=sl_len h.hflds
 obtain⟨ms,hms,h4,h5⟩:=h.hmths
 obtain⟨A4,k4,rfl,q4,z4⟩:=sl_len h4
 have g1: ¬1024<c.pool.length:=by omega
 have g2: ¬64<c.ifs.length:=by omega
 have g3: ¬64<c.flds.length:=by omega
 have g4: ¬64<c.mths.length:=by omega
 have H4:=Lib.hid h4
 have H5:=Lib.hid h5
 have HMS:=Lib.hid hms
 have HW:=Lib.hid ((Below.refl w.heap.size w).alloc (Nat.le_refl _) (.cells #[.int .i64 c.minor, .int .i64 c.major, .slice A1 c.pool.length k1, .int .i64 c.acc, .int .i64 c.this, .int .i64 c.sup, .slice A2 c.ifs.length k2, .slice A3 c.flds.length k3, .slice A4 c.mths.length k4] 104))
 clear h h4 h5 hms
 rw [bookV_open]
 go_enter Tryz.func126,Tryz.ntmps126
 go_wp2_with fail
 go_loopw [30] (fun i wr=> ∃k:Nat,k≤c.mths.length∧i= .int .i64 k∧Hid (Below w.heap.size w wr)∧Hid (c.mths.any longM=(c.mths.drop k).any longM)) (fun i _=>c.mths.length - (RowKit.intOf i).toNat)
 case atStart=>exact⟨0,by omega,rfl,HW,Lib.hid (by rw [List.drop_zero])⟩
 case round=>
  obtain⟨k,hk,rfl,HBr,HEr⟩:=hrel
  by_cases hlt:k<c.mths.length
  ·have hmsl:ms.length=c.mths.length:=by rw [←HMS.out,List.length_map]
   obtain⟨q,hq⟩: ∃q,ms[k]?=some q:=⟨_,List.getElem?_eq_getElem (by omega)⟩
   obtain⟨mv,code,traps⟩:=q
   have hcm:c.mths[k]?=some mv:=by rw [←HMS.out,List.getElem?_map,hq];rfl
   have hM:MethAt w ok mv code traps:=H5.out _ (List.mem_of_getElem? hq)
   obtain⟨Ac,kc,rfl,_,zc⟩:=sl_len hM.hcode
   obtain⟨At,kt,rfl,_,zt⟩:=sl_len hM.htraps
   obtain⟨A',cap',ev,_,_,_,h6⟩:=H4.out.keep (Kept.of_below HBr.out)
   cases ev
   obtain⟨b,off,rfl,hbl,_,hc⟩:=h6 (by omega)
   have hr:=rows_at (fun m:MethV×Value×Value=>m.1.cells m.2.1 m.2.2) 8 (fun _=>rfl) ms k _ hq
   have m0:=hc _ _ ((hr 0 (by omega)).trans rfl)
   have m1:=hc _ _ ((hr 1 (by omega)).trans rfl)
   have m2:=hc _ _ ((hr 2 (by omega)).trans rfl)
   have m3:=hc _ _ ((hr 3 (by omega)).trans rfl)
   have m4:=hc _ _ ((hr 4 (by omega)).trans rfl)
   have m5:=hc _ _ ((hr 5 (by omega)).trans rfl)
   have m6:=hc _ _ ((hr 6 (by omega)).trans rfl)
   have m7:=hc _ _ ((hr 7 (by omega)).trans rfl)
   simp only [Nat.add_zero] at m0
   rw [←Nat.add_assoc] at m1 m2 m3 m4 m5 m6 m7
   have HDR:=Lib.hid (show c.mths.drop k=mv::c.mths.drop (k+1) by
    rw [List.drop_eq_getElem_cons hlt]
    congr 1
    rw [List.getElem?_eq_getElem hlt] at hcm
    injection hcm)
   have HB2:=Lib.hid (HBr.out.alloc HBr.out.size (.cells #[.int .i64 mv.acc, .int .i64 mv.name, .int .i64 mv.desc, .bool mv.has, .int .i64 mv.stack, .int .i64 mv.locals, .slice Ac mv.code.length kc, .slice At mv.traps.length kt] 172))
   clear hq hcm hM hc hr h6 hmsl
   by_cases t1:64<mv.traps.length
   ·have HR:=Lib.hid (show c.mths.any longM=true by rw [HEr.out,HDR.out,List.any_cons];simp [longM,t1])
    go_wp2_with fail
    go_ret
    exact⟨by rw [HR.out];rfl,HB2.out⟩
   ·by_cases t2:4096<mv.code.length
    ·have HR:=Lib.hid (show c.mths.any longM=true by rw [HEr.out,HDR.out,List.any_cons];simp [longM,t2])
     go_wp2_with fail
     go_ret
     exact⟨by rw [HR.out];rfl,HB2.out⟩
    ·have HE2:=Lib.hid (show c.mths.any longM=(c.mths.drop (k+1)).any longM by rw [HEr.out,HDR.out,List.any_cons];simp [longM,t1,t2])
     go_wp2_with fail
     go_roundw
     case rel=>exact⟨k+1,by omega,by go_num,HB2,HE2⟩
     case measure=>simp [RowKit.intOf];omega
  ·have HR:=Lib.hid (show c.mths.any longM=false by rw [HEr.out,List.drop_of_length_le (by omega)];rfl)
   go_wp2_with fail
   go_ret
   exact⟨by rw [HR.out];rfl,HBr.out⟩
def firstE {α:Type} (f:α→Int):List α→Int
 | []=>0
 |x::r=>if f x≠0 then f x else firstE f r
def firstS {α:Type} (f:List α→α→Int):List α→List α→Int
 |_, []=>0
 |d,x::r=>if f d x≠0 then f d x else firstS f (d++ [x]) r
def checkE (conE:Ko→Int) (fldE:List FieldV→FieldV→Int) (mthE:List MethV→MethV→Int) (c:ClassV):Int:=if longC c=true then 2 else if c.major<45∨52<c.major then 12 else
 if firstE conE c.pool≠0 then firstE conE c.pool else if headE c≠0 then headE c else if firstS fldE [] c.flds≠0 then firstS fldE [] c.flds else firstS mthE [] c.mths
theorem firstE_more {α:Type} {f:α→Int} {l:List α} {k:Nat} {x:α} (h:l[k]?=some x):firstE f (l.drop k)=if f x≠0 then f x else firstE f (l.drop (k+1)):=by
 have hlt:=(List.getElem?_eq_some_iff.1 h).1
 rw [List.drop_eq_getElem_cons hlt,(List.getElem?_eq_some_iff.1 h).2,firstE]
theorem firstS_more {α:Type} {f:List α→α→Int} {l:List α} {k:Nat} {x:α} (h:l[k]?=some x):firstS f (l.take k) (l.drop k)=if f (l.take k) x≠0 then f (l.take k) x else firstS f (l.take (k+1)) (l.drop (k+1)):=by
 have hlt:=(List.getElem?_eq_some_iff.1 h).1
 rw [List.drop_eq_getElem_cons hlt,(List.getElem?_eq_some_iff.1 h).2,firstS,List.take_succ_eq_append_getElem hlt,(List.getElem?_eq_some_iff.1 h).2]
theorem long_any (c:ClassV) (p i f m:Value) (ok:Nat→Prop) (w:World) (h:ClassAt w ok c p i f m):
  Calls Tryz.prog 126 #[bookV c p i f m] w fun e w'=>e= .returned (.bool (longC c))∧Below w.heap.size w w':=by
 by_cases hl:1024<c.pool.length∨64<c.ifs.length∨64<c.flds.length∨64<c.mths.length
 ·refine(long_rows c p i f m ok w h hl).mono fun e w' hq=> ⟨hq.1.trans ?_,hq.2⟩
  have:longC c=true:=by unfold longC;simp;omega
  rw [this]
 ·refine(long_meths c p i f m ok w h (by omega) (by omega) (by omega) (by omega)).mono fun e w' hq=> ⟨hq.1.trans ?_,hq.2⟩
  have e1: ¬1024<c.pool.length:=by omega
  have e2: ¬64<c.ifs.length:=by omega
  have e3: ¬64<c.flds.length:=by omega
  have e4: ¬64<c.mths.length:=by omega
  have:longC c=c.mths.any longM:=by unfold longC;simp [e1,e2,e3,e4]
  rw [this]
structure SeenC (α:Type) (F:List α→Nat→World→Prop):Prop where
 new: ∀W b,W.heap[b]?=some (.map #[] 0)→F [] b W
 keep: ∀fs b W W',F fs b W→W'.heap[b]?=W.heap[b]?→F fs b W'
theorem fld_cells {w:World} {ok:Nat→Prop} {l:List FieldV} {A:Option Addr} {cap:Nat} (h:SlAt w ok 4 l.length (l.flatMap FieldV.cells) (.slice A l.length cap)): ∀(k:Nat) (x:FieldV),l[k]?=some x→ ∃b off,A=some ⟨b,off,none⟩∧b<w.heap.size∧
  w.cell? ⟨b,off+k*4,none⟩=some (.int .i64 x.acc)∧w.cell? ⟨b,off+k*4+1,none⟩=some (.int .i64 x.name)∧w.cell? ⟨b,off+k*4+2,none⟩=some (.int .i64 x.desc)∧w.cell? ⟨b,off+k*4+3,none⟩=some (.int .i64 x.value):=by
 intro k x hk
 obtain⟨A',cap',e,_,_,_,h5⟩:=h
 injection e with e1 _ _
 subst e1
 obtain⟨b,off,e,hlt,_,hc⟩:=h5 (by have:=(List.getElem?_eq_some_iff.1 hk).1;omega)
 have hr:=rows_at FieldV.cells 4 (fun _=>rfl) l k x hk
 exact⟨b,off,e,hlt,hc _ _ ((hr 0 (by omega)).trans rfl),hc _ _ ((hr 1 (by omega)).trans rfl),hc _ _ ((hr 2 (by omega)).trans rfl),hc _ _ ((hr 3 (by omega)).trans rfl)⟩
theorem mth_cells {w:World} {ok:Nat→Prop} {l:List (MethV×Value×Value)} {n:Nat} {A:Option Addr} {cap:Nat} (h:SlAt w ok 8 n (methCells l) (.slice A n cap)) (hn:l.length=n): ∀(k:Nat) (x:MethV) (cv tv:Value),l[k]?=some (x,cv,tv)→ ∃b off,A=some ⟨b,off,none⟩∧b<w.heap.size∧
  w.cell? ⟨b,off+k*8,none⟩=some (.int .i64 x.acc)∧w.cell? ⟨b,off+k*8+1,none⟩=some (.int .i64 x.name)∧w.cell? ⟨b,off+k*8+2,none⟩=some (.int .i64 x.desc)∧w.cell? ⟨b,off+k*8+3,none⟩=some (.bool x.has)∧
  w.cell? ⟨b,off+k*8+4,none⟩=some (.int .i64 x.stack)∧w.cell? ⟨b,off+k*8+5,none⟩=some (.int .i64 x.locals)∧w.cell? ⟨b,off+k*8+6,none⟩=some cv∧w.cell? ⟨b,off+k*8+7,none⟩=some tv:=by
 intro k x cv tv hk
 obtain⟨A',cap',e,_,_,_,h5⟩:=h
 injection e with e1 _ _
 subst e1
 obtain⟨b,off,e,hlt,_,hc⟩:=h5 (by have:=(List.getElem?_eq_some_iff.1 hk).1;omega)
 have hr:=rows_at (fun m:MethV×Value×Value=>m.1.cells m.2.1 m.2.2) 8 (fun _=>rfl) l k (x,cv,tv) hk
 exact⟨b,off,e,hlt,hc _ _ ((hr 0 (by omega)).trans rfl),hc _ _ ((hr 1 (by omega)).trans rfl),hc _ _ ((hr 2 (by omega)).trans rfl),hc _ _ ((hr 3 (by omega)).trans rfl),hc _ _ ((hr 4 (by omega)).trans rfl),hc _ _ ((hr 5 (by omega)).trans rfl),hc _ _ ((hr 6 (by omega)).trans rfl),hc _ _ ((hr 7 (by omega)).trans rfl)⟩
theorem jump_ret (l:Nat) (J:Act→World→Prop) (Q:Exit→Act→World→Prop) (a:Act) (w:World):Exit.jump l J Q .ret a w=Q .ret a w:=rfl
structure ChW (w:World) (cells:List Value) (wk:World):Prop where
 bel:Below w.heap.size w wk
 bc:Bx wk w.heap.size cells 104
 bb:Bx wk (w.heap.size+1) cells 248
theorem ChW.but {w:World} {cells:List Value} {wk wq:World} {S:List Nat} (h:ChW w cells wk) (hb:But wk.heap.size S wk wq) (hS: ∀k∈S,w.heap.size+2≤k):ChW w cells wq:=
 ⟨h.bel.trans ((hb.mono (S':= []) h.bel.size (fun k hk hm=>by have:=hS k hm;omega)).below),h.bc.but hb (fun hm=>by have:=hS _ hm;omega),h.bb.but hb (fun hm=>by have:=hS _ hm;omega)⟩
theorem ChW.below {w:World} {cells:List Value} {wk wq:World} (h:ChW w cells wk) (hb:Below wk.heap.size wk wq):ChW w cells wq:=h.but (S:= []) (But.of_below hb) (by simp)
theorem SeenC.below {α:Type} {F:List α→Nat→World→Prop} (hF:SeenC α F) {fs:List α} {b:Nat} {W W':World} (h:F fs b W) (hb:Below W.heap.size W W') (hl:b<W.heap.size):F fs b W':=hF.keep fs b W W' h (hb.block b hl)
def contE (fldE:List FieldV→FieldV→Int) (mthE:List MethV→MethV→Int) (c:ClassV) (x:Int):Int:=if x≠0 then x else if headE c≠0 then headE c else if firstS fldE [] c.flds≠0 then firstS fldE [] c.flds else firstS mthE [] c.mths
def contF (mthE:List MethV→MethV→Int) (c:ClassV) (x:Int):Int:=if x≠0 then x else firstS mthE [] c.mths
theorem check_any (c:ClassV) (p i f m:Value) (ok:Nat→Prop) (w:World) (h:ClassAt w ok c p i f m) (hok: ∀g,ok g→g<w.heap.size) (hn1:Fine c.this) (hn2:Fine c.sup) (hf: ∀k∈c.pool,Fine k.a) (hfi: ∀n∈c.ifs,Fine n) (hft: ∀k∈c.pool,k.text.size≤65536)
  (conE:Ko→Int) (fldE:List FieldV→FieldV→Int) (mthE:List MethV→MethV→Int) (FS:List FieldV→Nat→World→Prop) (MS:List MethV→Nat→World→Prop) (hFS:SeenC FieldV FS) (hMS:SeenC MethV MS)
  (hcon: ∀k∈c.pool, ∀W,ClassAt W ok c p i f m→Calls Tryz.prog 127 #[bookV c p i f m,koV k] W fun e W'=>e= .returned (.int .i64 (conE k))∧Below W.heap.size W W')
  (hfld: ∀k x,c.flds[k]?=some x→ ∀W b,ClassAt W ok c p i f m→w.heap.size≤b→FS (c.flds.take k) b W→Calls Tryz.prog 129 #[bookV c p i f m,fieldV x, .map (some b)] W fun e W'=>e= .returned (.int .i64 (fldE (c.flds.take k) x))∧But W.heap.size [b] W W'∧FS (c.flds.take (k+1)) b W')
  (hmth: ∀k x,c.mths[k]?=some x→ ∀W b cv tv,ClassAt W ok c p i f m→MethAt W ok x cv tv→w.heap.size≤b→MS (c.mths.take k) b W→Calls Tryz.prog 130 #[bookV c p i f m,methV x cv tv, .map (some b)] W fun e W'=>e= .returned (.int .i64 (mthE (c.mths.take k) x))∧But W.heap.size [b] W W'∧MS (c.mths.take (k+1)) b W'):
  Calls Tryz.prog 111 #[bookV c p i f m] w fun e w'=>e= .returned (.int .i64 (checkE conE fldE mthE c))∧Below w.heap.size w w':=by
 obtain⟨Ap,kp,rfl,hkp1,hkp2⟩:=sl_len h.hpool
 obtain⟨Ai,ki,rfl,hki1,hki2⟩:=sl_len h.hifs
 obtain⟨Af,kf,rfl,hkf1,hkf2⟩:=sl_len h.hflds
 obtain⟨ms,hms1,hms2,hms3⟩:=h.hmths
 obtain⟨Am,km,rfl,hkm1,hkm2⟩:=sl_len hms2
 have H0:=Lib.hid h
 have HMS:=Lib.hid hms1
 have HFS:=Lib.hid hFS
 have HMM:=Lib.hid hMS
 have HN1:=Lib.hid hn1
 have HN2:=Lib.hid hn2
 have HF:=Lib.hid hf
 have HFI:=Lib.hid hfi
 have HFT:=Lib.hid hft
 have HCON:=Lib.hid hcon
 have HFLD:=Lib.hid hfld
 have HMTH:=Lib.hid hmth
 obtain⟨E,hE⟩: ∃E,checkE conE fldE mthE c=E:=⟨_,rfl⟩
 rw [hE]
 have HE:=Lib.hid hE
 have hmm:= @run_makeMap Tryz.prog
 have B1:=Lib.hid (bx_new w [.int .i64 c.minor, .int .i64 c.major, .slice Ap c.pool.length kp, .int .i64 c.acc, .int .i64 c.this, .int .i64 c.sup, .slice Ai c.ifs.length ki, .slice Af c.flds.length kf, .slice Am c.mths.length km] 104)
 have B2:=Lib.hid (bx_new_at (w.alloc (.cells #[.int .i64 c.minor, .int .i64 c.major, .slice Ap c.pool.length kp, .int .i64 c.acc, .int .i64 c.this, .int .i64 c.sup, .slice Ai c.ifs.length ki, .slice Af c.flds.length kf, .slice Am c.mths.length km] 104)) [.int .i64 0, .int .i64 0, .slice none 0 0, .int .i64 0, .int .i64 0, .int .i64 0, .slice none 0 0, .slice none 0 0, .slice none 0 0] 248 (w.heap.size+1) (by simp))
 clear h hn1 hn2 hf hfi hft hcon hfld hmth hms1 hms2 hms3 hFS hMS hE
 rw [bookV_open]
 go_enter Tryz.func111,Tryz.ntmps111
 go_wp2_with fail
 refine wp_scope_jumps 0 (fun a w'=> ∃t:Array Value,a=⟨t, []⟩∧t.size=73∧t[4]?=some (.int .i64 E)∧Hid (Below w.heap.size w w')) (fun _ _=>0) rfl ?_ ?_
 ·go_wp2_with (first
   | (refine wpList_load_row rfl _ _ rfl w.heap.size rfl _ _ _ _ B1.out Tryz.underlying104 rfl (by kernel_rfl) ?_)
   | (refine wpList_store_row rfl _ _ _ rfl (w.heap.size+1) _ rfl rfl _ _ B2.out (by kernel_rfl) rfl (by simp [Value.oneCell']) ?_;refine stop_here ?_))
  refine go_on ?_
  have B3:=Lib.hid (show ChW w [.int .i64 c.minor, .int .i64 c.major, .slice Ap c.pool.length kp, .int .i64 c.acc, .int .i64 c.this, .int .i64 c.sup, .slice Ai c.ifs.length ki, .slice Af c.flds.length kf, .slice Am c.mths.length km] (((w.alloc (.cells ([.int .i64 c.minor, .int .i64 c.major, .slice Ap c.pool.length kp, .int .i64 c.acc, .int .i64 c.this, .int .i64 c.sup, .slice Ai c.ifs.length ki, .slice Af c.flds.length kf, .slice Am c.mths.length km]).toArray 104)).alloc (.cells #[.int .i64 0, .int .i64 0, .slice none 0 0, .int .i64 0, .int .i64 0, .int .i64 0, .slice none 0 0, .slice none 0 0, .slice none 0 0] 248)).setRow (w.heap.size+1) ([.int .i64 c.minor, .int .i64 c.major, .slice Ap c.pool.length kp, .int .i64 c.acc, .int .i64 c.this, .int .i64 c.sup, .slice Ai c.ifs.length ki, .slice Af c.flds.length kf, .slice Am c.mths.length km]).toArray) from
   ⟨(((Below.refl _ _).alloc (Nat.le_refl _) _).alloc (by simp) _).trans ⟨rfl,rfl,rfl,by simp,fun k hk=>setRow_other _ _ _ _ (by omega)⟩,(show _=_ from(setRow_other _ _ _ _ (by omega)).trans (B1.out.below ((Below.refl _ _).alloc (Nat.le_refl _) _) B1.out.lt)),B2.out.row _⟩)
  have hz2:(((w.alloc (.cells ([.int .i64 c.minor, .int .i64 c.major, .slice Ap c.pool.length kp, .int .i64 c.acc, .int .i64 c.this, .int .i64 c.sup, .slice Ai c.ifs.length ki, .slice Af c.flds.length kf, .slice Am c.mths.length km]).toArray 104)).alloc (.cells #[.int .i64 0, .int .i64 0, .slice none 0 0, .int .i64 0, .int .i64 0, .int .i64 0, .slice none 0 0, .slice none 0 0, .slice none 0 0] 248)).setRow (w.heap.size+1) ([.int .i64 c.minor, .int .i64 c.major, .slice Ap c.pool.length kp, .int .i64 c.acc, .int .i64 c.this, .int .i64 c.sup, .slice Ai c.ifs.length ki, .slice Af c.flds.length kf, .slice Am c.mths.length km]).toArray).heap.size=w.heap.size+2:=by simp
  generalize (((w.alloc (.cells ([.int .i64 c.minor, .int .i64 c.major, .slice Ap c.pool.length kp, .int .i64 c.acc, .int .i64 c.this, .int .i64 c.sup, .slice Ai c.ifs.length ki, .slice Af c.flds.length kf, .slice Am c.mths.length km]).toArray 104)).alloc (.cells #[.int .i64 0, .int .i64 0, .slice none 0 0, .int .i64 0, .int .i64 0, .int .i64 0, .slice none 0 0, .slice none 0 0, .slice none 0 0] 248)).setRow (w.heap.size+1) ([.int .i64 c.minor, .int .i64 c.major, .slice Ap c.pool.length kp, .int .i64 c.acc, .int .i64 c.this, .int .i64 c.sup, .slice Ai c.ifs.length ki, .slice Af c.flds.length kf, .slice Am c.mths.length km]).toArray)=w2 at*
  have FS0:=Lib.hid (HFS.out.new (w2.alloc (.map #[] 0)) w2.heap.size (heap_alloc_new _ _))
  have hM:(w2.alloc (.map #[] 0)).heap.size=w2.heap.size+1:=by simp
  have MS0:=Lib.hid (HMM.out.new ((w2.alloc (.map #[] 0)).alloc (.map #[] 0)) (w2.heap.size+1) (by rw [←hM];exact heap_alloc_new _ _))
  have FS1:=Lib.hid (HFS.out.below (W':=(w2.alloc (.map #[] 0)).alloc (.map #[] 0)) FS0.out ((Below.refl _ _).alloc (Nat.le_refl _) _) (by simp))
  have B4:=Lib.hid (B3.out.below (((Below.refl w2.heap.size w2).alloc (Nat.le_refl _) (.map #[] 0)).alloc (by simp) (.map #[] 0)))
  rw [hz2] at MS0 FS1
  clear FS0 hM B1 B2
  go_wp2_with (first
   | (refine wpList_load_row rfl _ _ rfl w.heap.size rfl _ _ _ _ B4.out.bc Tryz.underlying104 rfl (by kernel_rfl) ?_)
   | (go_at_call 126;refine stop_here ?_))
  refine go_on ?_
  refine(long_any c _ _ _ _ ok _ (H0.out.keep (Kept.of_below B4.out.bel))).mono ?_
  rintro e w5 ⟨rfl,hb⟩
  have hz5:=hb.size
  simp only [World.size_alloc] at hz5
  have B5:=Lib.hid (B4.out.below hb)
  have FS5:=Lib.hid (HFS.out.below FS1.out hb (by simp;omega))
  have MS5:=Lib.hid (HMM.out.below MS0.out hb (by simp;omega))
  clear hb B4 FS1 MS0
  by_cases hL:longC c=true
  ·have HE2:=Lib.hid (show E=2 by rw [←HE.out];unfold checkE;rw [if_pos hL])
   rw [hL]
   clear hL
   go_wp2_with fail
   go_step3
   exact⟨rfl,_,rfl,rfl,(by rw [HE2.out];rfl),Lib.hid B5.out.bel⟩
  have HE1:=Lib.hid (show E=if c.major<45∨52<c.major then 12 else contE fldE mthE c (firstE conE c.pool) by rw [←HE.out];unfold checkE contE;rw [if_neg hL])
  rw [show longC c=false by simpa using hL]
  clear hL HE
  have m1:=B5.out.bc.cell 1 rfl
  by_cases hV:c.major<45∨52<c.major
  ·have HE2:=Lib.hid (show E=12 by rw [HE1.out,if_pos hV])
   rcases hV with hV|hV
   ·have hb1:decide (c.major<45)=true:=by simpa using hV
    go_wp2_with fail
    go_step3
    exact⟨rfl,_,rfl,rfl,(by rw [HE2.out];rfl),Lib.hid B5.out.bel⟩
   ·have hb1:decide (c.major<45)=false:=by simp;omega
    have hb2:decide (52<c.major)=true:=by simpa using hV
    go_wp2_with fail
    go_step3
    exact⟨rfl,_,rfl,rfl,(by rw [HE2.out];rfl),Lib.hid B5.out.bel⟩
  have HE2:=Lib.hid (show E=contE fldE mthE c (firstE conE (c.pool.drop 0)) by rw [HE1.out,if_neg hV];rfl)
  have hb1:decide (c.major<45)=false:=by simp;omega
  have hb2:decide (52<c.major)=false:=by simp;omega
  have m2:=B5.out.bc.cell 2 rfl
  clear hV HE1
  go_wp2_with fail
  clear m1 m2
  go_loopw [4,30] (fun e i wr=> ∃k:Nat,k≤c.pool.length∧i= .int .i64 k∧e= .int .i64 0∧w.heap.size+4≤wr.heap.size∧Hid (ChW w [.int .i64 c.minor, .int .i64 c.major, .slice Ap c.pool.length kp, .int .i64 c.acc, .int .i64 c.this, .int .i64 c.sup, .slice Ai c.ifs.length ki, .slice Af c.flds.length kf, .slice Am c.mths.length km] wr)∧Hid (FS [] (w.heap.size+2) wr)∧Hid (MS [] (w.heap.size+2+1) wr)∧Hid (E=contE fldE mthE c (firstE conE (c.pool.drop k)))) (fun e i _=>c.pool.length - (RowKit.intOf i).toNat)
  case atStart=>exact⟨0,by omega,rfl,rfl,by omega,B5,FS5,MS5,HE2⟩
  case round=>
   obtain⟨wr1,hwr⟩: ∃W,W=wr:=⟨_,rfl⟩
   subst hwr
   obtain⟨k,hk,rfl,rfl,hzr,Br,FSr,MSr,HEr⟩:=hrel
   by_cases hlt:k<c.pool.length
   ·obtain⟨x,hx⟩: ∃x,c.pool[k]?=some x:=⟨_,List.getElem?_eq_getElem hlt⟩
    have HR:=Lib.hid (firstE_more (f:=conE) hx)
    have HCX:=Lib.hid (fun W=>HCON.out x (List.mem_of_getElem? hx) W)
    have HRD:=pool_cells (H0.out.keep (Kept.of_below Br.out.bel)).hpool k x hx
    obtain⟨b,off,hAp,hbl,p0,p1,p2,p3,p4⟩:=HRD
    subst hAp
    obtain⟨x1,x2,x3,x4,x5,x6,x7,x8,x9,x10,x11,x12⟩:=far b wr1.heap.size hbl
    clear hx
    go_wp2_with (first
     | (refine wpList_load_row rfl _ _ rfl (w.heap.size+1) rfl _ _ _ _ (Br.out.below ((Below.refl _ _).alloc (Nat.le_refl _) _)).bb Tryz.underlying248 rfl (by kernel_rfl) ?_)
     | (go_at_call 127;refine stop_here ?_))
    refine go_on ?_
    have B6:=Lib.hid (Br.out.below ((Below.refl _ _).alloc (Nat.le_refl _) (.cells #[.int .i64 x.tag, .string x.text, .int .i64 x.num, .int .i64 x.a, .int .i64 x.b] 81)))
    refine(HCX.out _ (H0.out.keep (Kept.of_below B6.out.bel))).mono ?_
    by_cases hc0:conE x=0
    ·rw [hc0] at HR⊢
     rintro e w6 ⟨rfl,hb⟩
     have hz6:=hb.size
     simp only [World.size_alloc] at hz6
     have B7:=Lib.hid (B6.out.below hb)
     have hbb:=Lib.hid (((Below.refl _ _).alloc (Nat.le_refl _) (.cells #[.int .i64 x.tag, .string x.text, .int .i64 x.num, .int .i64 x.a, .int .i64 x.b] 81)).trans (hb.mono (by simp)))
     clear hb hc0 p0 p1 p2 p3 p4
     go_wp2_with fail
     go_roundw
     case rel=>exact⟨k+1,by omega,by go_num,rfl,by omega,B7,Lib.hid (HFS.out.below FSr.out hbb.out (by omega)),Lib.hid (HMM.out.below MSr.out hbb.out (by omega)),Lib.hid (by rw [HEr.out,HR.out];rfl)⟩
     case measure=>simp [RowKit.intOf];omega
    ·have HEx:=Lib.hid (show E=conE x by rw [HEr.out,HR.out,if_pos hc0];unfold contE;rw [if_pos hc0])
     rintro e w6 ⟨rfl,hb⟩
     have B7:=Lib.hid (B6.out.below hb)
     obtain⟨ce,hce⟩: ∃ce,conE x=ce:=⟨_,rfl⟩
     rw [hce] at HEx hc0⊢
     have hbn:(ce !=0)=true:=by simpa using hc0
     clear hb hc0 hce p0 p1 p2 p3 p4
     go_wp2_with fail
     go_step3
     exact⟨rfl,_,rfl,rfl,(by rw [HEx.out];rfl),Lib.hid B7.out.bel⟩
   ·obtain rfl:k=c.pool.length:=by omega
    have HE3:=Lib.hid (show E=if headE c≠0 then headE c else contF mthE c (firstS fldE (c.flds.take 0) (c.flds.drop 0)) by rw [HEr.out,List.drop_length];rfl)
    clear hlt HEr
    go_wp2_with (first
     | (refine wpList_load_row rfl _ _ rfl (w.heap.size+1) rfl _ _ _ _ (Br.out).bb Tryz.underlying248 rfl (by kernel_rfl) ?_)
     | (go_at_call 128;refine stop_here ?_))
    refine go_on ?_
    have HCA:=H0.out.keep (Kept.of_below Br.out.bel)
    refine(head_any c Ap kp _ _ _ ok _ ⟨HCA.hpool,rfl,rfl,rfl⟩ HCA.hifs HN1.out HN2.out HF.out HFI.out HFT.out).mono ?_
    clear HCA
    by_cases hh0:headE c=0
    ·rw [hh0]
     rintro e w6 ⟨rfl,hb⟩
     have HE4:=Lib.hid (show E=contF mthE c (firstS fldE (c.flds.take 0) (c.flds.drop 0)) by rw [HE3.out,if_neg (fun h=>h hh0)])
     have hz6:=hb.size
     have B6:=Lib.hid (Br.out.below hb)
     have FS6:=Lib.hid (HFS.out.below FSr.out hb (by omega))
     have MS6:=Lib.hid (HMM.out.below MSr.out hb (by omega))
     clear hb hh0 HE3 Br FSr MSr
     have m7:=B6.out.bc.cell 7 rfl
     go_wp2_with fail
     clear m7
     go_loopw [4,47] (fun e i wr=> ∃k:Nat,k≤c.flds.length∧i= .int .i64 k∧e= .int .i64 0∧w.heap.size+4≤wr.heap.size∧Hid (ChW w [.int .i64 c.minor, .int .i64 c.major, .slice Ap c.pool.length kp, .int .i64 c.acc, .int .i64 c.this, .int .i64 c.sup, .slice Ai c.ifs.length ki, .slice Af c.flds.length kf, .slice Am c.mths.length km] wr)∧Hid (FS (c.flds.take k) (w.heap.size+2) wr)∧Hid (MS [] (w.heap.size+2+1) wr)∧Hid (E=contF mthE c (firstS fldE (c.flds.take k) (c.flds.drop k)))) (fun e i _=>c.flds.length - (RowKit.intOf i).toNat)
     case atStart=>exact⟨0,by omega,rfl,rfl,by omega,B6,FS6,MS6,HE4⟩
     case round=>
      obtain⟨wr2,hwr⟩: ∃W,W=wr:=⟨_,rfl⟩
      subst hwr
      obtain⟨k,hk,rfl,rfl,hzr2,Br,FSr,MSr,HEr⟩:=hrel
      by_cases hlt:k<c.flds.length
      ·obtain⟨x,hx⟩: ∃x,c.flds[k]?=some x:=⟨_,List.getElem?_eq_getElem hlt⟩
       have HR:=Lib.hid (firstS_more (f:=fldE) hx)
       have HCX:=Lib.hid (fun W b=>HFLD.out k x hx W b)
       have HRD:=fld_cells (H0.out.keep (Kept.of_below Br.out.bel)).hflds k x hx
       obtain⟨b,off,hAp,hbl,p0,p1,p2,p3⟩:=HRD
       subst hAp
       obtain⟨x1,x2,x3,x4,x5,x6,x7,x8,x9,x10,x11,x12⟩:=far b wr2.heap.size hbl
       clear hx
       go_wp2_with (first
        | (refine wpList_load_row rfl _ _ rfl (w.heap.size+1) rfl _ _ _ _ (Br.out.below ((Below.refl _ _).alloc (Nat.le_refl _) _)).bb Tryz.underlying248 rfl (by kernel_rfl) ?_)
        | (go_at_call 129;refine stop_here ?_))
       refine go_on ?_
       have B6:=Lib.hid (Br.out.below ((Below.refl _ _).alloc (Nat.le_refl _) (.cells #[.int .i64 x.acc, .int .i64 x.name, .int .i64 x.desc, .int .i64 x.value] 168)))
       have FS6:=Lib.hid (HFS.out.below FSr.out ((Below.refl _ _).alloc (Nat.le_refl _) (.cells #[.int .i64 x.acc, .int .i64 x.name, .int .i64 x.desc, .int .i64 x.value] 168)) (by omega))
       have MS6:=Lib.hid (HMM.out.below MSr.out ((Below.refl _ _).alloc (Nat.le_refl _) (.cells #[.int .i64 x.acc, .int .i64 x.name, .int .i64 x.desc, .int .i64 x.value] 168)) (by omega))
       refine(HCX.out _ (w.heap.size+2) (H0.out.keep (Kept.of_below B6.out.bel)) (by omega) FS6.out).mono ?_
       by_cases hc0:fldE (c.flds.take k) x=0
       ·rw [hc0] at HR⊢
        rintro e w6 ⟨rfl,hb,hfs⟩
        have hz6:=hb.size
        simp only [World.size_alloc] at hz6
        have B7:=Lib.hid (B6.out.but hb (by simp))
        have FS7:=Lib.hid hfs
        have MS7:=Lib.hid (HMM.out.keep _ _ _ _ MS6.out (hb.block _ (by simp;omega) (by simp)))
        clear hb hc0 p0 p1 p2 p3 hfs
        go_wp2_with fail
        go_roundw
        case rel=>exact⟨k+1,by omega,by go_num,rfl,by omega,B7,FS7,MS7,Lib.hid (by rw [HEr.out,HR.out];rfl)⟩
        case measure=>simp [RowKit.intOf];omega
       ·have HEx:=Lib.hid (show E=fldE (c.flds.take k) x by rw [HEr.out,HR.out,if_pos hc0];unfold contF;rw [if_pos hc0])
        rintro e w6 ⟨rfl,hb,_⟩
        have B7:=Lib.hid (B6.out.but hb (by simp))
        obtain⟨ce,hce⟩: ∃ce,fldE (c.flds.take k) x=ce:=⟨_,rfl⟩
        rw [hce] at HEx hc0⊢
        have hbn:(ce !=0)=true:=by simpa using hc0
        clear hb hc0 hce p0 p1 p2 p3
        go_wp2_with fail
        go_step3
        exact⟨rfl,_,rfl,rfl,(by rw [HEx.out];rfl),Lib.hid B7.out.bel⟩
      ·obtain rfl:k=c.flds.length:=by omega
       have HE4:=Lib.hid (show E=firstS mthE (c.mths.take 0) (c.mths.drop 0) by rw [HEr.out,List.drop_length];rfl)
       have m8:=Br.out.bc.cell 8 rfl
       clear hlt HEr
       go_wp2_with fail
       clear m8
       go_loopw [4,61] (fun e i wr=> ∃k:Nat,k≤c.mths.length∧i= .int .i64 k∧e= .int .i64 0∧w.heap.size+4≤wr.heap.size∧Hid (ChW w [.int .i64 c.minor, .int .i64 c.major, .slice Ap c.pool.length kp, .int .i64 c.acc, .int .i64 c.this, .int .i64 c.sup, .slice Ai c.ifs.length ki, .slice Af c.flds.length kf, .slice Am c.mths.length km] wr)∧Hid (MS (c.mths.take k) (w.heap.size+2+1) wr)∧Hid (E=firstS mthE (c.mths.take k) (c.mths.drop k))) (fun e i _=>c.mths.length - (RowKit.intOf i).toNat)
       case atStart=>exact⟨0,by omega,rfl,rfl,by omega,Br,MSr,HE4⟩
       case round=>
        obtain⟨wr3,hwr⟩: ∃W,W=wr:=⟨_,rfl⟩
        subst hwr
        obtain⟨k,hk,rfl,rfl,hzr3,Br,MSr,HEr⟩:=hrel
        by_cases hlt:k<c.mths.length
        ·obtain⟨ms',e1,e2,e3⟩:=(H0.out.keep (Kept.of_below Br.out.bel)).hmths
         have hml:ms'.length=c.mths.length:=by rw [←e1,List.length_map]
         obtain⟨x,cv,tv,hx⟩: ∃x cv tv,ms'[k]?=some (x,cv,tv):=⟨_,_,_,List.getElem?_eq_getElem (by omega)⟩
         have hx':c.mths[k]?=some x:=by rw [←e1,List.getElem?_map,hx];rfl
         have HME:=Lib.hid (e3 (x,cv,tv) (List.mem_of_getElem? hx))
         have HR:=Lib.hid (firstS_more (f:=mthE) hx')
         have HCX:=Lib.hid (fun W b cv tv=>HMTH.out k x hx' W b cv tv)
         have HRD:=mth_cells e2 hml k x cv tv hx
         obtain⟨Ac,kc,hcv,_⟩:=id HME.out.hcode
         obtain⟨At,kt,htv,_⟩:=id HME.out.htraps
         simp only at hcv htv
         subst hcv
         subst htv
         obtain⟨b,off,hAp,hbl,p0,p1,p2,p3,p4,p5,p6,p7⟩:=HRD
         subst hAp
         obtain⟨x1,x2,x3,x4,x5,x6,x7,x8,x9,x10,x11,x12⟩:=far b wr3.heap.size hbl
         clear hx hx' e1 e2 e3 hml
         go_wp2_with (first
          | (refine wpList_load_row rfl _ _ rfl (w.heap.size+1) rfl _ _ _ _ (Br.out.below ((Below.refl _ _).alloc (Nat.le_refl _) _)).bb Tryz.underlying248 rfl (by kernel_rfl) ?_)
          | (go_at_call 130;refine stop_here ?_))
         refine go_on ?_
         have B6:=Lib.hid (Br.out.below ((Below.refl _ _).alloc (Nat.le_refl _) (.cells #[.int .i64 x.acc, .int .i64 x.name, .int .i64 x.desc, .bool x.has, .int .i64 x.stack, .int .i64 x.locals, .slice Ac x.code.length kc, .slice At x.traps.length kt] 172)))
         have MS6:=Lib.hid (HMM.out.below MSr.out ((Below.refl _ _).alloc (Nat.le_refl _) (.cells #[.int .i64 x.acc, .int .i64 x.name, .int .i64 x.desc, .bool x.has, .int .i64 x.stack, .int .i64 x.locals, .slice Ac x.code.length kc, .slice At x.traps.length kt] 172)) (by omega))
         have HK6:=Lib.hid (Kept.of_below (ok:=ok) ((Below.refl wr3.heap.size wr3).alloc (Nat.le_refl _) (.cells #[.int .i64 x.acc, .int .i64 x.name, .int .i64 x.desc, .bool x.has, .int .i64 x.stack, .int .i64 x.locals, .slice Ac x.code.length kc, .slice At x.traps.length kt] 172)))
         refine(HCX.out _ (w.heap.size+2+1) _ _ (H0.out.keep (Kept.of_below B6.out.bel)) ⟨HME.out.hcode.keep HK6.out,HME.out.htraps.keep HK6.out⟩ (by omega) MS6.out).mono ?_
         by_cases hc0:mthE (c.mths.take k) x=0
         ·rw [hc0] at HR⊢
          rintro e w6 ⟨rfl,hb,hms⟩
          have hz6:=hb.size
          simp only [World.size_alloc] at hz6
          have B7:=Lib.hid (B6.out.but hb (by simp))
          have MS7:=Lib.hid hms
          clear hb hc0 p0 p1 p2 p3 p4 p5 p6 p7 hms
          go_wp2_with fail
          go_roundw
          case rel=>exact⟨k+1,by omega,by go_num,rfl,by omega,B7,MS7,Lib.hid (by rw [HEr.out,HR.out];rfl)⟩
          case measure=>simp [RowKit.intOf];omega
         ·have HEx:=Lib.hid (show E=mthE (c.mths.take k) x by rw [HEr.out,HR.out,if_pos hc0])
          rintro e w6 ⟨rfl,hb,_⟩
          have B7:=Lib.hid (B6.out.but hb (by simp))
          obtain⟨ce,hce⟩: ∃ce,mthE (c.mths.take k) x=ce:=⟨_,rfl⟩
          rw [hce] at HEx hc0⊢
          have hbn:(ce !=0)=true:=by simpa using hc0
          clear hb hc0 hce p0 p1 p2 p3 p4 p5 p6 p7
          go_wp2_with fail
          go_step3
          exact⟨rfl,_,rfl,rfl,(by rw [HEx.out];rfl),Lib.hid B7.out.bel⟩
        ·obtain rfl:k=c.mths.length:=by omega
         have HE5:=Lib.hid (show E=0 by rw [HEr.out,List.drop_length];rfl)
         clear hlt HEr
         go_wp2_with fail
         go_step3
         go_wp2_with fail
         rw [jump_ret]
         go_ret
         exact⟨by rw [HE5.out];rfl,Br.out.bel⟩
    ·have HEx:=Lib.hid (show E=headE c by rw [HE3.out,if_pos hh0])
     rintro e w6 ⟨rfl,hb⟩
     have B7:=Lib.hid (Br.out.below hb)
     obtain⟨ce,hce⟩: ∃ce,headE c=ce:=⟨_,rfl⟩
     rw [hce] at HEx hh0⊢
     have hbn:(ce !=0)=true:=by simpa using hh0
     clear hb hh0 hce HE3
     go_wp2_with fail
     go_step3
     exact⟨rfl,_,rfl,rfl,(by rw [HEx.out];rfl),Lib.hid B7.out.bel⟩
 ·intro a w' ha
  obtain⟨t,rfl,hs,h4,hb⟩:=ha
  go_wp2_with fail
  rw [jump_ret]
  refine bodyPost_ret (v:= .int .i64 E) ?_ rfl ⟨rfl,hb.out⟩
  obtain⟨hlt,h5⟩:=Array.getElem?_eq_some_iff.1 h4
  simp [results,Tryz.results111,h5,hs,go_sem]
end Go.Proofs.YtpbnjakeielipaaGreatDoor
