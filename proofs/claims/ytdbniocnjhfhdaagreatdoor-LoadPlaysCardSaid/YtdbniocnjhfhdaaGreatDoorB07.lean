/- Part 7 of what the laws rest on: walks. Conditions: those that each theorem names. -/
import Derived.Test.YtdbniocnjhfhdaaGreatDoorB06
set_option linter.unusedSimpArgs false
set_option linter.unusedVariables false
set_option maxRecDepth 100000
set_option maxHeartbeats 2000000
namespace Go.Proofs.YtdbniocnjhfhdaaGreatDoor
open Go Go.RowKit Lib Go.Maps
def gqQ (pool:List Ko):List Int→List (List UInt8)→Int→Int
 | [],_,e=>e
 |n::r,seen,e=>if e≠0 then e else
  gqQ pool r (((aqE pool n).getD ⟨#[]⟩).data.toList::seen) (if(aqE pool n).isSome=false then 20 else if((aqE pool n).getD ⟨#[]⟩).data.toList∈seen then 24 else 0)
def cqF (c:aqc):Int:=gqQ c.pool c.ifs [] (fqC (eqW c.pool c.this) (eqW c.pool c.sup) (bqD c.acc (aqE c.pool c.sup)))
def fqh (seen:List (List UInt8)):List UInt8→Option Value:=fun s=>if s∈seen then some (.int .i64 (seen.count s)) else none
theorem fqD (seen:List (List UInt8)) (s:List UInt8):iqj (fqh seen) s (.int .i64 ((seen.count s:Int)+1))=fqh (s::seen):=by
 funext x
 unfold iqj fqh
 by_cases hx:x=s
 ·subst hx
  simp
 simp [hx,List.count_cons,Ne.symm hx]
theorem fqE (seen:List (List UInt8)) (s:List UInt8):(fqh seen s).getD (.int .i64 0)= .int .i64 (seen.count s):=by
 unfold fqh
 by_cases h:s∈seen
 ·simp [h]
 simp [h,List.count_eq_zero.2 h]
theorem hqq (w:World):(zeroValue 3).run Tryz.prog w= .ok (.int .i64 0) w:=by kernel_rfl
theorem fqF {pool:List Ko} {n:Int} {s:ByteArray} (h:aqf pool n=some s) (ht: ∀k∈pool,k.text.size≤65536):s.size≤65536:=by
 unfold aqf at h
 rcases hk:aqt pool n 1 with _|k
 ·rw [hk] at h
  cases h
 rw [hk] at h
 injection h with h
 subst h
 exact ht k (cqm hk).1
theorem iqs {pool:List Ko} {n:Int} (ht: ∀k∈pool,k.text.size≤65536):((aqE pool n).getD ⟨#[]⟩).size≤65536:=by
 rcases hs:aqE pool n with _|s
 ·exact Nat.zero_le _
 unfold aqE at hs
 rcases hk:aqt pool n 7 with _|k
 ·rw [hk] at hs
  cases hs
 rw [hk] at hs
 exact fqF hs ht
theorem hqr (pool:List Ko) (n:Int) (r:List Int) (seen:List (List UInt8)) (e:Int) (h:e≠0):gqQ pool (n::r) seen e=e:=by rw [gqQ,if_pos h]
theorem lqc (pool:List Ko) (n:Int) (r:List Int) (seen:List (List UInt8)):gqQ pool (n::r) seen 0=gqQ pool r (((aqE pool n).getD ⟨#[]⟩).data.toList::seen) (if(aqE pool n).isSome=false then 20 else if((aqE pool n).getD ⟨#[]⟩).data.toList∈seen then 24 else 0):=by rw [gqQ,if_neg Sp]
theorem bqm.turned {w w':World} {P:Program} {k:TypeId} {b m sz:Nat} {f:List UInt8→Option Value} {ok:Nat→Prop} {size n:Nat} {cells:List Value} {v:Value} (h:bqm w ok size n cells v) (hs:0<size) (hg:w.grownBy w' (some b)) (hM:cqa w P k b m f sz):bqm w' ok size n cells v:=by
 obtain⟨A,cap,rfl,h1,h2,h3,h4⟩:=h
 refine⟨A,cap,rfl,h1,h2,h3,fun h0=> ?_⟩
 obtain⟨g,off,e,hlt,ho,hc⟩:=h4 h0
 refine⟨g,off,e,Nat.lt_of_lt_of_le hlt hg.size,ho,fun j u hu=> ?_⟩
 have h5:=hc j u hu
 have hne:g≠b:=fun e=>by
  subst e
  rw [hM.no_cell] at h5
  cases h5
 rw [World.cell?_of_block (w:=w) (hg.block g hlt (fun e=>hne (by injection e)))]
 exact h5
theorem aqQ.turned {w w':World} {P:Program} {k:TypeId} {b m sz:Nat} {f:List UInt8→Option Value} {ok:Nat→Prop} {c:aqc} {A:Option Addr} {cap:Nat} {ifs flds mths:Value} (h:aqQ w ok c A cap ifs flds mths) (hg:w.grownBy w' (some b)) (hM:cqa w P k b m f sz):aqQ w' ok c A cap ifs flds mths:=
 ⟨h.hp.turned Om hg hM,h.h1,h.h2,h.h3⟩
theorem mqN (c:aqc) (A:Option Addr) (cap:Nat) (ifs flds mths:Value) (ok:Nat→Prop) (w:World) (h:aqQ w ok c A cap ifs flds mths) (hi:bqm w ok 1 c.ifs.length (c.ifs.map (Value.int .i64)) ifs) (hn1:bqA c.this) (hn2:bqA c.sup) (hf: ∀k∈c.pool,bqA k.a) (hfi: ∀n∈c.ifs,bqA n) (hft: ∀k∈c.pool,k.text.size≤65536):
  Calls Tryz.prog 126 #[bqb c (.slice A c.pool.length cap) ifs flds mths] w fun e w'=>e= .returned (.int .i64 (cqF c))∧Below w.heap.size w w':=by
 have hmf: ∀(fn:Fn) (first cap:Array Value) (w:World),(Instr.makeFunc fn first cap).run Tryz.prog w= .ok (.func fn first cap) w:=fun _ _ _ _=>rfl
 have hmm:= @run_makeMap Tryz.prog
 have H0:=Hq (h.below (Rf9.alloc Nr (.cells #[.int .i64 c.minor, .int .i64 c.major, .slice A c.pool.length cap, .int .i64 c.acc, .int .i64 c.this, .int .i64 c.sup,ifs,flds,mths] 179)))
 have X0:=Hq (aql w [.int .i64 c.minor, .int .i64 c.major, .slice A c.pool.length cap, .int .i64 c.acc, .int .i64 c.this, .int .i64 c.sup,ifs,flds,mths] 179)
 have HI:=Hq hi
 have HN1:=Hq hn1
 have HN2:=Hq hn2
 have HF:=Hq hf
 have HFI:=Hq hfi
 have HFT:=Hq hft
 obtain⟨A2,cap2,rfl,hc2,hm2,hl2,_⟩:=hi
 clear h hn1 hn2 hf hfi hl2 hft
 rw [aqe]
 go_enter Tryz.func126,Tryz.ntmps126
 go_wp2_with (go_at_call 96;refine aqa ?_)
 refine aqb ?_
 refine(dqV c A cap _ flds mths c.sup ok _ H0.out HN2.out HF.out).mono ?_
 rintro e w1 ⟨rfl,hb⟩
 simp only [cqh]
 have hz1:=hb.size
 simp at hz1
 have HB1:=Hq hb
 have X1:=Hq (X0.out.below hb Sp)
 have H1:=Hq (H0.out.below hb)
 clear hb
 obtain⟨x1,x2,x3,x4,x5,x6,x7,x8,x9,x10,x11,x12⟩:=far w.heap.size w1.heap.size Om
 have c0:=X1.out.cell 0 rfl
 have c1:=X1.out.cell 1 rfl
 have c2:=X1.out.cell 2 rfl
 have c3:=X1.out.cell 3 rfl
 have c4:=X1.out.cell 4 rfl
 have c5:=X1.out.cell 5 rfl
 have c6:=X1.out.cell 6 rfl
 have c7:=X1.out.cell 7 rfl
 have c8:=X1.out.cell 8 rfl
 go_wp2_with (go_at_call 145;refine aqa ?_)
 refine aqb ?_
 obtain⟨e1,he1⟩: ∃e,fqC (eqW c.pool c.this) (eqW c.pool c.sup) (bqD c.acc (aqE c.pool c.sup))=e:=⟨_,rfl⟩
 have HE1:=Hq (show cqF c=gqQ c.pool (c.ifs.drop 0) [] e1 by unfold cqF;rw [he1];rfl)
 have HW2:=Hq ((((Below.refl w1.heap.size w1).alloc Nr (.cells #[.string ((aqE c.pool c.sup).getD ⟨#[]⟩)] 9)).alloc Sp (.cells #[.bool (aqE c.pool c.sup).isSome] 4)).alloc Sd (.cells (lqb (w1.heap.size+1) w1.heap.size).toArray 213))
 refine(jq6 c A cap _ flds mths ok _ (H1.out.below HW2.out) HN1.out HN2.out (w1.heap.size+1+1) (w1.heap.size+1) w1.heap.size (aqE c.pool c.sup) 213 (aqh _ (lqb (w1.heap.size+1) w1.heap.size) _ _ Sp) (by simp [go_sem]) (by simp [go_sem]) Fy9 Fy9).mono ?_
 rw [he1]
 rintro e w2 ⟨rfl,hb2⟩
 have hz2:=hb2.size
 simp at hz2
 have HB2:=Hq (((((Below.refl w.heap.size w).alloc Nr _).trans (HB1.out.mono Sp)).trans (HW2.out.mono Om)).trans (hb2.mono Sd))
 have X2:=Hq ((X1.out.below HW2.out Om).below hb2 Sd)
 have H2:=Hq ((H1.out.below HW2.out).below hb2)
 clear hb2 he1 c0 c1 c2 c3 c4 c5 c6 c7 c8 x1 x2 x3 x4 x5 x6 x7 x8 x9 x10 x11 x12
 obtain⟨x1,x2,x3,x4,x5,x6,x7,x8,x9,x10,x11,x12⟩:=far w.heap.size w2.heap.size Om
 have c6:=X2.out.cell 6 rfl
 go_wp2_with fail
 have HM3:=Hq (show cqa (w2.alloc (.map #[] 0)) Tryz.prog 9 w2.heap.size 0 (fqh []) 0 by
  have e:fqh []=fun _=>none:=by funext s;simp [fqh]
  rw [e]
  exact fqt w2 Tryz.prog 9)
 have HB3:=Hq (HB2.out.alloc Om (.map #[] 0))
 have X3:=Hq (X2.out.below (Rf9.alloc Nr (.map #[] 0)) X2.out.lt)
 have H3:=Hq (H2.out.below (Rf9.alloc Nr (.map #[] 0)))
 have hz3:w2.heap.size< (w2.alloc (.map #[] 0)).heap.size:=by simp
 clear c6
 go_loopw [5,31] (fun ev i wr=> ∃(k:Nat) (seen:List (List UInt8)) (e:Int) (nm sz:Nat),k≤c.ifs.length∧i= .int .i64 k∧ev= .int .i64 e∧nm≤k∧Hid (cqa wr Tryz.prog 9 w2.heap.size nm (fqh seen) sz)∧Hid (Below w.heap.size w wr)∧Hid (Bx wr w.heap.size [.int .i64 c.minor, .int .i64 c.major, .slice A c.pool.length cap, .int .i64 c.acc, .int .i64 c.this, .int .i64 c.sup, .slice A2 c.ifs.length cap2,flds,mths] 179)∧Hid (aqQ wr ok c A cap (.slice A2 c.ifs.length cap2) flds mths)∧Hid (cqF c=gqQ c.pool (c.ifs.drop k) seen e)∧w2.heap.size<wr.heap.size∧Hid (seen.length=k)) (fun _ i _=>c.ifs.length - (RowKit.intOf i).toNat)
 case atStart=>exact⟨0, [],e1,0,0,by omega,rfl,rfl,by omega,HM3,HB3,X3,H3,HE1,hz3,Hq rfl⟩
 case round=>
  obtain⟨k,seen,e,nm,sz,hk,rfl,rfl,hnm,HMr,HBr,Xr,Hr,HEr,hzr,HLr⟩:=hrel
  by_cases hlt:k<c.ifs.length
  ·obtain⟨n,hn⟩: ∃n,c.ifs[k]?=some n:=⟨_,List.getElem?_eq_getElem hlt⟩
   have HDR:=Hq (show c.ifs.drop k=n::c.ifs.drop (k+1) by
    rw [List.drop_eq_getElem_cons hlt]
    congr 1
    rw [List.getElem?_eq_getElem hlt] at hn
    injection hn)
   have HNF:=Hq (HFI.out n (List.mem_of_getElem? hn))
   obtain⟨A',cap',ev,_,_,_,h5⟩:=HI.out.keep (aqC.of_below HBr.out)
   cases ev
   obtain⟨b,off,rfl,hbl,_,hc⟩:=h5 Om
   have cn:=hc k (.int .i64 n) (by rw [List.getElem?_map,hn];rfl)
   clear hn hc h5
   by_cases he:e=0
   ·subst he
    have c0:=Xr.out.cell 0 rfl
    have c1:=Xr.out.cell 1 rfl
    have c2:=Xr.out.cell 2 rfl
    have c3:=Xr.out.cell 3 rfl
    have c4:=Xr.out.cell 4 rfl
    have c5:=Xr.out.cell 5 rfl
    have c6:=Xr.out.cell 6 rfl
    have c7:=Xr.out.cell 7 rfl
    have c8:=Xr.out.cell 8 rfl
    go_wp2_with (go_at_call 96;refine aqa ?_)
    refine aqb ?_
    clear c0 c1 c2 c3 c4 c5 c6 c7 c8
    refine(dqV c A cap _ flds mths n ok _ Hr.out HNF.out HF.out).mono ?_
    rintro e w4 ⟨rfl,hb4⟩
    simp only [cqh]
    have hz4:=hb4.size
    have HM4:=Hq (HMr.out.keep (hb4.block _ hzr))
    have HB4:=Hq (HBr.out.trans (hb4.mono Om))
    have X4:=Hq (Xr.out.below hb4 Xr.out.lt)
    have H4:=Hq (Hr.out.below hb4)
    have hsz:((aqE c.pool n).getD ⟨#[]⟩).size≤maxLen:=by have:=iqs (n:=n) HFT.out;unfold maxLen;omega
    have HE4:=HEr.out
    rw [HDR.out,lqc] at HE4
    have HE4:=Hq HE4
    obtain⟨sv,hsv⟩: ∃s,(aqE c.pool n).getD ⟨#[]⟩=s:=⟨_,rfl⟩
    obtain⟨kv,hkv⟩: ∃b,(aqE c.pool n).isSome=b:=⟨_,rfl⟩
    rw [hsv,hkv] at HE4
    rw [hsv] at hsz
    rw [hsv,hkv]
    clear hb4 hsv hkv
    have hcb:seen.count sv.data.toList≤1048576:=Nat.le_trans List.count_le_length (by have:=HLr.out;omega)
    cases kv with
    |false=>
     have HE4:=Hq (show cqF c=gqQ c.pool (c.ifs.drop (k+1)) (sv.data.toList::seen) 20 from HE4.out.trans (by rw [if_pos rfl]))
     go_wp2_with (first
 | (at_lookup;refine dqP rfl _ _ rfl Tryz.underlying9 Tryz.underlying63 (hqq _) rfl HM4.out rfl hsz ?_;rw [fqE])
 | (at_mapUpdate;refine eqp (u:= .int .i64 ((seen.count sv.data.toList:Int)+1)) rfl _ _ _ rfl Tryz.underlying9 Tryz.underlying63 rfl HM4.out Uf9 rfl hsz rfl ?_;intro w5 hm5 hg5;refine aqa ?_))
     rw [fqD] at hm5
     have HM5:=Hq (show∃sz',cqa w5 Tryz.prog 9 w2.heap.size (nm+1) (fqh (sv.data.toList::seen)) sz' from⟨_,hm5⟩)
     have HB5:=Hq (HB4.out.grown hg5 Om (fun q hq=>by injection hq with hq;omega))
     have X5:=Hq ((hg5.block _ X4.out.lt (fun e=>by injection e with e;omega)).trans X4.out)
     have H5:=Hq (H4.out.turned hg5 HM4.out)
     have hz5:=hg5.size
     clear hm5 hg5
     obtain⟨sz5,hm5⟩:=HM5.out
     have HM5':=Hq hm5
     clear hm5
     refine aqb ?_
     go_wp2_with fail
     go_roundw
     case rel=>exact⟨k+1,sv.data.toList::seen,20,nm+1,sz5,by omega,by go_num,rfl,by omega,HM5',HB5,X5,H5,HE4,by omega,Hq (by simp [HLr.out])⟩
     case measure=>simp [RowKit.intOf];omega
    |true=>
     by_cases hin:sv.data.toList∈seen
     ·have HE4:=Hq (show cqF c=gqQ c.pool (c.ifs.drop (k+1)) (sv.data.toList::seen) 24 from HE4.out.trans (by rw [if_neg Sp,if_pos hin]))
      have hcnt:0<seen.count sv.data.toList:=List.count_pos_iff.2 hin
      clear hin
      go_wp2_with (first
 | (at_lookup;refine dqP rfl _ _ rfl Tryz.underlying9 Tryz.underlying63 (hqq _) rfl HM4.out rfl hsz ?_;rw [fqE])
 | (at_mapUpdate;refine eqp (u:= .int .i64 ((seen.count sv.data.toList:Int)+1)) rfl _ _ _ rfl Tryz.underlying9 Tryz.underlying63 rfl HM4.out Uf9 rfl hsz rfl ?_;intro w5 hm5 hg5;refine aqa ?_))
      rw [fqD] at hm5
      have HM5:=Hq (show∃sz',cqa w5 Tryz.prog 9 w2.heap.size (nm+1) (fqh (sv.data.toList::seen)) sz' from⟨_,hm5⟩)
      have HB5:=Hq (HB4.out.grown hg5 Om (fun q hq=>by injection hq with hq;omega))
      have X5:=Hq ((hg5.block _ X4.out.lt (fun e=>by injection e with e;omega)).trans X4.out)
      have H5:=Hq (H4.out.turned hg5 HM4.out)
      have hz5:=hg5.size
      clear hm5 hg5
      obtain⟨sz5,hm5⟩:=HM5.out
      have HM5':=Hq hm5
      clear hm5
      refine aqb ?_
      go_wp2_with fail
      go_roundw
      case rel=>exact⟨k+1,sv.data.toList::seen,24,nm+1,sz5,by omega,by go_num,rfl,by omega,HM5',HB5,X5,H5,HE4,by omega,Hq (by simp [HLr.out])⟩
      case measure=>simp [RowKit.intOf];omega
     ·have HE4:=Hq (show cqF c=gqQ c.pool (c.ifs.drop (k+1)) (sv.data.toList::seen) 0 from HE4.out.trans (by rw [if_neg Sp,if_neg hin]))
      have hcnt: ¬0<seen.count sv.data.toList:=by rw [List.count_eq_zero.2 hin];omega
      clear hin
      go_wp2_with (first
 | (at_lookup;refine dqP rfl _ _ rfl Tryz.underlying9 Tryz.underlying63 (hqq _) rfl HM4.out rfl hsz ?_;rw [fqE])
 | (at_mapUpdate;refine eqp (u:= .int .i64 ((seen.count sv.data.toList:Int)+1)) rfl _ _ _ rfl Tryz.underlying9 Tryz.underlying63 rfl HM4.out Uf9 rfl hsz rfl ?_;intro w5 hm5 hg5;refine aqa ?_))
      rw [fqD] at hm5
      have HM5:=Hq (show∃sz',cqa w5 Tryz.prog 9 w2.heap.size (nm+1) (fqh (sv.data.toList::seen)) sz' from⟨_,hm5⟩)
      have HB5:=Hq (HB4.out.grown hg5 Om (fun q hq=>by injection hq with hq;omega))
      have X5:=Hq ((hg5.block _ X4.out.lt (fun e=>by injection e with e;omega)).trans X4.out)
      have H5:=Hq (H4.out.turned hg5 HM4.out)
      have hz5:=hg5.size
      clear hm5 hg5
      obtain⟨sz5,hm5⟩:=HM5.out
      have HM5':=Hq hm5
      clear hm5
      refine aqb ?_
      go_wp2_with fail
      go_roundw
      case rel=>exact⟨k+1,sv.data.toList::seen,0,nm+1,sz5,by omega,by go_num,rfl,by omega,HM5',HB5,X5,H5,HE4,by omega,Hq (by simp [HLr.out])⟩
      case measure=>simp [RowKit.intOf];omega
   ·have HR:=Hq (show cqF c=e by rw [HEr.out,HDR.out];exact hqr _ _ _ _ _ he)
    have heb:(e !=0)=true:=by simp [he]
    clear he
    go_wp2_with fail
    go_ret
    exact⟨by rw [HR.out];rfl,HBr.out⟩
  ·have hkk:k=c.ifs.length:=by omega
   have HR:=Hq (show cqF c=e by rw [HEr.out,hkk,List.drop_length];rfl)
   go_wp2_with fail
   go_ret
   exact⟨by rw [HR.out];rfl,HBr.out⟩
end Go.Proofs.YtdbniocnjhfhdaaGreatDoor
namespace Go.Proofs.YtdbniocnjhfhdaaGreatDoor
open Go Go.RowKit Lib
def cqz (m:aqr):Bool:=decide (64<m.traps.length) ||decide (4096<m.code.length)
def eqE (c:aqc):Bool:=decide (1024<c.pool.length) ||decide (64<c.ifs.length) ||decide (64<c.flds.length) ||decide (64<c.mths.length) ||c.mths.any cqz
theorem aqd {w:World} {ok:Nat→Prop} {size n:Nat} {cells:List Value} {v:Value} (h:bqm w ok size n cells v): ∃A cap,v= .slice A n cap∧n≤cap∧n≤1048576:=by
 obtain⟨A,cap,e,h1,h2,_⟩:=h
 exact⟨A,cap,e,h1,h2⟩
theorem lqd (c:aqc) (p i f m:Value) (ok:Nat→Prop) (w:World) (h:aqy w ok c p i f m) (hl:1024<c.pool.length∨64<c.ifs.length∨64<c.flds.length∨64<c.mths.length):
  Calls Tryz.prog 124 #[bqb c p i f m] w fun e w'=>e= .returned (.bool true)∧Below w.heap.size w w':=by
 obtain⟨A1,k1,rfl,q1,z1⟩:=aqd h.hpool
 obtain⟨A2,k2,rfl,q2,z2⟩:=aqd h.hifs
 obtain⟨A3,k3,rfl,q3,z3⟩:=aqd h.hflds
 obtain⟨_,_,h4,_⟩:=h.hmths
 obtain⟨A4,k4,rfl,q4,z4⟩:=aqd h4
 clear h h4
 have HW:=Hq ((Below.refl w.heap.size w).alloc Nr (.cells #[.int .i64 c.minor, .int .i64 c.major, .slice A1 c.pool.length k1, .int .i64 c.acc, .int .i64 c.this, .int .i64 c.sup, .slice A2 c.ifs.length k2, .slice A3 c.flds.length k3, .slice A4 c.mths.length k4] 58))
 rw [aqe]
 generalize c.pool.length=n1 at*
 generalize c.ifs.length=n2 at*
 generalize c.flds.length=n3 at*
 generalize c.mths.length=n4 at*
 by_cases h1:1024<n1
 ·clear hl
  go_enter Tryz.func124,Tryz.ntmps124
  go_wp2
  go_ret
  exact⟨rfl,HW.out⟩
 by_cases h2:64<n2
 ·clear hl
  go_enter Tryz.func124,Tryz.ntmps124
  go_wp2
  go_ret
  exact⟨rfl,HW.out⟩
 by_cases h3:64<n3
 ·clear hl
  go_enter Tryz.func124,Tryz.ntmps124
  go_wp2
  go_ret
  exact⟨rfl,HW.out⟩
 have h4:64<n4:=by omega
 clear hl
 go_enter Tryz.func124,Tryz.ntmps124
 go_wp2
 go_ret
 exact⟨rfl,HW.out⟩
theorem jq7 (c:aqc) (p i f m:Value) (ok:Nat→Prop) (w:World) (h:aqy w ok c p i f m) (hl1:c.pool.length≤1024) (hl2:c.ifs.length≤64) (hl3:c.flds.length≤64) (hl4:c.mths.length≤64):
  Calls Tryz.prog 124 #[bqb c p i f m] w fun e w'=>e= .returned (.bool (c.mths.any cqz))∧Below w.heap.size w w':=by
 obtain⟨A1,k1,rfl,q1,z1⟩:=aqd h.hpool
 obtain⟨A2,k2,rfl,q2,z2⟩:=aqd h.hifs
 obtain⟨A3,k3,rfl,q3,z3⟩:=aqd h.hflds
 obtain⟨ms,hms,h4,h5⟩:=h.hmths
 obtain⟨A4,k4,rfl,q4,z4⟩:=aqd h4
 have g1: ¬1024<c.pool.length:=by omega
 have g2: ¬64<c.ifs.length:=by omega
 have g3: ¬64<c.flds.length:=by omega
 have g4: ¬64<c.mths.length:=by omega
 have H4:=Hq h4
 have H5:=Hq h5
 have HMS:=Hq hms
 have HW:=Hq ((Below.refl w.heap.size w).alloc Nr (.cells #[.int .i64 c.minor, .int .i64 c.major, .slice A1 c.pool.length k1, .int .i64 c.acc, .int .i64 c.this, .int .i64 c.sup, .slice A2 c.ifs.length k2, .slice A3 c.flds.length k3, .slice A4 c.mths.length k4] 58))
 clear h h4 h5 hms
 rw [aqe]
 go_enter Tryz.func124,Tryz.ntmps124
 go_wp2_with fail
 go_loopw [30] (fun i wr=> ∃k:Nat,k≤c.mths.length∧i= .int .i64 k∧Hid (Below w.heap.size w wr)∧Hid (c.mths.any cqz=(c.mths.drop k).any cqz)) (fun i _=>c.mths.length - (RowKit.intOf i).toNat)
 case atStart=>exact⟨0,by omega,rfl,HW,Hq (by rw [List.drop_zero])⟩
 case round=>
  obtain⟨k,hk,rfl,HBr,HEr⟩:=hrel
  by_cases hlt:k<c.mths.length
  ·have hmsl:ms.length=c.mths.length:=by rw [←HMS.out,List.length_map]
   obtain⟨q,hq⟩: ∃q,ms[k]?=some q:=⟨_,List.getElem?_eq_getElem Om⟩
   obtain⟨mv,code,traps⟩:=q
   have hcm:c.mths[k]?=some mv:=by rw [←HMS.out,List.getElem?_map,hq];rfl
   have hM:aqO w ok mv code traps:=H5.out _ (List.mem_of_getElem? hq)
   obtain⟨Ac,kc,rfl,_,zc⟩:=aqd hM.hcode
   obtain⟨At,kt,rfl,_,zt⟩:=aqd hM.htraps
   obtain⟨A',cap',ev,_,_,_,h6⟩:=H4.out.keep (aqC.of_below HBr.out)
   cases ev
   obtain⟨b,off,rfl,hbl,_,hc⟩:=h6 Om
   have hr:=cqL (fun m:aqr×Value×Value=>m.1.cells m.2.1 m.2.2) 8 (fun _=>rfl) ms k _ hq
   have m0:=hc _ _ ((hr 0 Om).trans rfl)
   have m1:=hc _ _ ((hr 1 Om).trans rfl)
   have m2:=hc _ _ ((hr 2 Om).trans rfl)
   have m3:=hc _ _ ((hr 3 Om).trans rfl)
   have m4:=hc _ _ ((hr 4 Om).trans rfl)
   have m5:=hc _ _ ((hr 5 Om).trans rfl)
   have m6:=hc _ _ ((hr 6 Om).trans rfl)
   have m7:=hc _ _ ((hr 7 Om).trans rfl)
   simp only [Nat.add_zero] at m0
   rw [←Nat.add_assoc] at m1 m2 m3 m4 m5 m6 m7
   have HDR:=Hq (show c.mths.drop k=mv::c.mths.drop (k+1) by
    rw [List.drop_eq_getElem_cons hlt]
    congr 1
    rw [List.getElem?_eq_getElem hlt] at hcm
    injection hcm)
   have HB2:=Hq (HBr.out.alloc HBr.out.size (.cells #[.int .i64 mv.acc, .int .i64 mv.name, .int .i64 mv.desc, .bool mv.has, .int .i64 mv.stack, .int .i64 mv.locals, .slice Ac mv.code.length kc, .slice At mv.traps.length kt] 91))
   clear hq hcm hM hc hr h6 hmsl
   by_cases t1:64<mv.traps.length
   ·have HR:=Hq (show c.mths.any cqz=true by rw [HEr.out,HDR.out,List.any_cons];simp [cqz,t1])
    go_wp2_with fail
    go_ret
    exact⟨by rw [HR.out];rfl,HB2.out⟩
   by_cases t2:4096<mv.code.length
   ·have HR:=Hq (show c.mths.any cqz=true by rw [HEr.out,HDR.out,List.any_cons];simp [cqz,t2])
    go_wp2_with fail
    go_ret
    exact⟨by rw [HR.out];rfl,HB2.out⟩
   have HE2:=Hq (show c.mths.any cqz=(c.mths.drop (k+1)).any cqz by rw [HEr.out,HDR.out,List.any_cons];simp [cqz,t1,t2])
   go_wp2_with fail
   go_roundw
   case rel=>exact⟨k+1,by omega,by go_num,HB2,HE2⟩
   case measure=>simp [RowKit.intOf];omega
  have HR:=Hq (show c.mths.any cqz=false by rw [HEr.out,List.drop_of_length_le Om];rfl)
  go_wp2_with fail
  go_ret
  exact⟨by rw [HR.out];rfl,HBr.out⟩
def cqu {α:Type} (f:α→Int):List α→Int
 | []=>0
 |x::r=>if f x≠0 then f x else cqu f r
def aqZ {α:Type} (f:List α→α→Int):List α→List α→Int
 |_, []=>0
 |d,x::r=>if f d x≠0 then f d x else aqZ f (d++ [x]) r
def gqn (conE:Ko→Int) (fldE:List aqq→aqq→Int) (mthE:List aqr→aqr→Int) (c:aqc):Int:=if eqE c=true then 2 else if c.major<45∨52<c.major then 12 else
 if cqu conE c.pool≠0 then cqu conE c.pool else if cqF c≠0 then cqF c else if aqZ fldE [] c.flds≠0 then aqZ fldE [] c.flds else aqZ mthE [] c.mths
theorem fqG {α:Type} {f:α→Int} {l:List α} {k:Nat} {x:α} (h:l[k]?=some x):cqu f (l.drop k)=if f x≠0 then f x else cqu f (l.drop (k+1)):=by
 have hlt:=(List.getElem?_eq_some_iff.1 h).1
 rw [List.drop_eq_getElem_cons hlt,(List.getElem?_eq_some_iff.1 h).2,cqu]
theorem dqs {α:Type} {f:List α→α→Int} {l:List α} {k:Nat} {x:α} (h:l[k]?=some x):aqZ f (l.take k) (l.drop k)=if f (l.take k) x≠0 then f (l.take k) x else aqZ f (l.take (k+1)) (l.drop (k+1)):=by
 have hlt:=(List.getElem?_eq_some_iff.1 h).1
 rw [List.drop_eq_getElem_cons hlt,(List.getElem?_eq_some_iff.1 h).2,aqZ,List.take_succ_eq_append_getElem hlt,(List.getElem?_eq_some_iff.1 h).2]
theorem mqO (c:aqc) (p i f m:Value) (ok:Nat→Prop) (w:World) (h:aqy w ok c p i f m):
  Calls Tryz.prog 124 #[bqb c p i f m] w fun e w'=>e= .returned (.bool (eqE c))∧Below w.heap.size w w':=by
 by_cases hl:1024<c.pool.length∨64<c.ifs.length∨64<c.flds.length∨64<c.mths.length
 ·refine(lqd c p i f m ok w h hl).mono fun e w' hq=> ⟨hq.1.trans ?_,hq.2⟩
  have:eqE c=true:=by unfold eqE;simp;omega
  rw [this]
 refine(jq7 c p i f m ok w h Om Om Om Om).mono fun e w' hq=> ⟨hq.1.trans ?_,hq.2⟩
 have e1: ¬1024<c.pool.length:=by omega
 have e2: ¬64<c.ifs.length:=by omega
 have e3: ¬64<c.flds.length:=by omega
 have e4: ¬64<c.mths.length:=by omega
 have:eqE c=c.mths.any cqz:=by unfold eqE;simp [e1,e2,e3,e4]
 rw [this]
structure mqP (α:Type) (F:List α→Nat→World→Prop):Prop where
 new: ∀W b,W.heap[b]?=some (.map #[] 0)→F [] b W
 keep: ∀fs b W W',F fs b W→W'.heap[b]?=W.heap[b]?→F fs b W'
theorem cqv {w:World} {ok:Nat→Prop} {l:List aqq} {A:Option Addr} {cap:Nat} (h:bqm w ok 4 l.length (l.flatMap aqq.cells) (.slice A l.length cap)): ∀(k:Nat) (x:aqq),l[k]?=some x→ ∃b off,A=some ⟨b,off,none⟩∧b<w.heap.size∧
  w.cell? ⟨b,off+k*4,none⟩=some (.int .i64 x.acc)∧w.cell? ⟨b,off+k*4+1,none⟩=some (.int .i64 x.name)∧w.cell? ⟨b,off+k*4+2,none⟩=some (.int .i64 x.desc)∧w.cell? ⟨b,off+k*4+3,none⟩=some (.int .i64 x.value):=by
 intro k x hk
 obtain⟨A',cap',e,_,_,_,h5⟩:=h
 injection e with e1 _ _
 subst e1
 obtain⟨b,off,e,hlt,_,hc⟩:=h5 (by have:=(List.getElem?_eq_some_iff.1 hk).1;omega)
 have hr:=cqL aqq.cells 4 (fun _=>rfl) l k x hk
 exact⟨b,off,e,hlt,hc _ _ ((hr 0 Om).trans rfl),hc _ _ ((hr 1 Om).trans rfl),hc _ _ ((hr 2 Om).trans rfl),hc _ _ ((hr 3 Om).trans rfl)⟩
theorem dqf {w:World} {ok:Nat→Prop} {l:List (aqr×Value×Value)} {n:Nat} {A:Option Addr} {cap:Nat} (h:bqm w ok 8 n (bqs l) (.slice A n cap)) (hn:l.length=n): ∀(k:Nat) (x:aqr) (cv tv:Value),l[k]?=some (x,cv,tv)→ ∃b off,A=some ⟨b,off,none⟩∧b<w.heap.size∧
  w.cell? ⟨b,off+k*8,none⟩=some (.int .i64 x.acc)∧w.cell? ⟨b,off+k*8+1,none⟩=some (.int .i64 x.name)∧w.cell? ⟨b,off+k*8+2,none⟩=some (.int .i64 x.desc)∧w.cell? ⟨b,off+k*8+3,none⟩=some (.bool x.has)∧
  w.cell? ⟨b,off+k*8+4,none⟩=some (.int .i64 x.stack)∧w.cell? ⟨b,off+k*8+5,none⟩=some (.int .i64 x.locals)∧w.cell? ⟨b,off+k*8+6,none⟩=some cv∧w.cell? ⟨b,off+k*8+7,none⟩=some tv:=by
 intro k x cv tv hk
 obtain⟨A',cap',e,_,_,_,h5⟩:=h
 injection e with e1 _ _
 subst e1
 obtain⟨b,off,e,hlt,_,hc⟩:=h5 (by have:=(List.getElem?_eq_some_iff.1 hk).1;omega)
 have hr:=cqL (fun m:aqr×Value×Value=>m.1.cells m.2.1 m.2.2) 8 (fun _=>rfl) l k (x,cv,tv) hk
 exact⟨b,off,e,hlt,hc _ _ ((hr 0 Om).trans rfl),hc _ _ ((hr 1 Om).trans rfl),hc _ _ ((hr 2 Om).trans rfl),hc _ _ ((hr 3 Om).trans rfl),hc _ _ ((hr 4 Om).trans rfl),hc _ _ ((hr 5 Om).trans rfl),hc _ _ ((hr 6 Om).trans rfl),hc _ _ ((hr 7 Om).trans rfl)⟩
theorem jqv (l:Nat) (J:Act→World→Prop) (Q:Exit→Act→World→Prop) (a:Act) (w:World):Exit.jump l J Q .ret a w=Q .ret a w:=rfl
structure ChW (w:World) (cells:List Value) (wk:World):Prop where
 bel:Below w.heap.size w wk
 bc:Bx wk w.heap.size cells 58
 bb:Bx wk (w.heap.size+1) cells 179
theorem ChW.but {w:World} {cells:List Value} {wk wq:World} {S:List Nat} (h:ChW w cells wk) (hb:But wk.heap.size S wk wq) (hS: ∀k∈S,w.heap.size+2≤k):ChW w cells wq:=
 ⟨h.bel.trans ((hb.mono (S':= []) h.bel.size (fun k hk hm=>by have:=hS k hm;omega)).below),h.bc.but hb (fun hm=>by have:=hS _ hm;omega),h.bb.but hb (fun hm=>by have:=hS _ hm;omega)⟩
theorem ChW.below {w:World} {cells:List Value} {wk wq:World} (h:ChW w cells wk) (hb:Below wk.heap.size wk wq):ChW w cells wq:=h.but (S:= []) (But.of_below hb) Sp
theorem mqP.below {α:Type} {F:List α→Nat→World→Prop} (hF:mqP α F) {fs:List α} {b:Nat} {W W':World} (h:F fs b W) (hb:Below W.heap.size W W') (hl:b<W.heap.size):F fs b W':=hF.keep fs b W W' h (hb.block b hl)
def lqe (fldE:List aqq→aqq→Int) (mthE:List aqr→aqr→Int) (c:aqc) (x:Int):Int:=if x≠0 then x else if cqF c≠0 then cqF c else if aqZ fldE [] c.flds≠0 then aqZ fldE [] c.flds else aqZ mthE [] c.mths
def mqQ (mthE:List aqr→aqr→Int) (c:aqc) (x:Int):Int:=if x≠0 then x else aqZ mthE [] c.mths
theorem lqf (c:aqc) (p i f m:Value) (ok:Nat→Prop) (w:World) (h:aqy w ok c p i f m) (hok: ∀g,ok g→g<w.heap.size) (hn1:bqA c.this) (hn2:bqA c.sup) (hf: ∀k∈c.pool,bqA k.a) (hfi: ∀n∈c.ifs,bqA n) (hft: ∀k∈c.pool,k.text.size≤65536)
  (conE:Ko→Int) (fldE:List aqq→aqq→Int) (mthE:List aqr→aqr→Int) (FS:List aqq→Nat→World→Prop) (MS:List aqr→Nat→World→Prop) (hFS:mqP aqq FS) (hMS:mqP aqr MS)
  (hcon: ∀k∈c.pool, ∀W,aqy W ok c p i f m→Calls Tryz.prog 125 #[bqb c p i f m,koV k] W fun e W'=>e= .returned (.int .i64 (conE k))∧Below W.heap.size W W')
  (hfld: ∀k x,c.flds[k]?=some x→ ∀W b,aqy W ok c p i f m→w.heap.size≤b→FS (c.flds.take k) b W→Calls Tryz.prog 127 #[bqb c p i f m,bq0 x, .map (some b)] W fun e W'=>e= .returned (.int .i64 (fldE (c.flds.take k) x))∧But W.heap.size [b] W W'∧FS (c.flds.take (k+1)) b W')
  (hmth: ∀k x,c.mths[k]?=some x→ ∀W b cv tv,aqy W ok c p i f m→aqO W ok x cv tv→w.heap.size≤b→MS (c.mths.take k) b W→Calls Tryz.prog 128 #[bqb c p i f m,bqL x cv tv, .map (some b)] W fun e W'=>e= .returned (.int .i64 (mthE (c.mths.take k) x))∧But W.heap.size [b] W W'∧MS (c.mths.take (k+1)) b W'):
  Calls Tryz.prog 95 #[bqb c p i f m] w fun e w'=>e= .returned (.int .i64 (gqn conE fldE mthE c))∧Below w.heap.size w w':=by
 obtain⟨Ap,kp,rfl,hkp1,hkp2⟩:=aqd h.hpool
 obtain⟨Ai,ki,rfl,hki1,hki2⟩:=aqd h.hifs
 obtain⟨Af,kf,rfl,hkf1,hkf2⟩:=aqd h.hflds
 obtain⟨ms,hms1,hms2,hms3⟩:=h.hmths
 obtain⟨Am,km,rfl,hkm1,hkm2⟩:=aqd hms2
 have H0:=Hq h
 have HMS:=Hq hms1
 have HFS:=Hq hFS
 have HMM:=Hq hMS
 have HN1:=Hq hn1
 have HN2:=Hq hn2
 have HF:=Hq hf
 have HFI:=Hq hfi
 have HFT:=Hq hft
 have HCON:=Hq hcon
 have HFLD:=Hq hfld
 have HMTH:=Hq hmth
 obtain⟨E,hE⟩: ∃E,gqn conE fldE mthE c=E:=⟨_,rfl⟩
 rw [hE]
 have HE:=Hq hE
 have hmm:= @run_makeMap Tryz.prog
 have B1:=Hq (aql w [.int .i64 c.minor, .int .i64 c.major, .slice Ap c.pool.length kp, .int .i64 c.acc, .int .i64 c.this, .int .i64 c.sup, .slice Ai c.ifs.length ki, .slice Af c.flds.length kf, .slice Am c.mths.length km] 58)
 have B2:=Hq (aqh (w.alloc (.cells #[.int .i64 c.minor, .int .i64 c.major, .slice Ap c.pool.length kp, .int .i64 c.acc, .int .i64 c.this, .int .i64 c.sup, .slice Ai c.ifs.length ki, .slice Af c.flds.length kf, .slice Am c.mths.length km] 58)) [.int .i64 0, .int .i64 0, .slice none 0 0, .int .i64 0, .int .i64 0, .int .i64 0, .slice none 0 0, .slice none 0 0, .slice none 0 0] 179 (w.heap.size+1) Sp)
 clear h hn1 hn2 hf hfi hft hcon hfld hmth hms1 hms2 hms3 hFS hMS hE
 rw [aqe]
 go_enter Tryz.func95,Tryz.ntmps95
 go_wp2_with fail
 refine wp_scope_jumps 0 (fun a w'=> ∃t:Array Value,a=⟨t, []⟩∧t.size=73∧t[4]?=some (.int .i64 E)∧Hid (Below w.heap.size w w')) (fun _ _=>0) rfl ?_ ?_
 ·go_wp2_with (first
   | (refine wpList_load_row rfl _ _ rfl w.heap.size rfl _ _ _ _ B1.out Tryz.underlying58 rfl Kq9 ?_)
   | (refine wpList_store_row rfl _ _ _ rfl (w.heap.size+1) _ rfl rfl _ _ B2.out Kq9 rfl Oc ?_;refine aqa ?_))
  refine aqb ?_
  have B3:=Hq (show ChW w [.int .i64 c.minor, .int .i64 c.major, .slice Ap c.pool.length kp, .int .i64 c.acc, .int .i64 c.this, .int .i64 c.sup, .slice Ai c.ifs.length ki, .slice Af c.flds.length kf, .slice Am c.mths.length km] (((w.alloc (.cells ([.int .i64 c.minor, .int .i64 c.major, .slice Ap c.pool.length kp, .int .i64 c.acc, .int .i64 c.this, .int .i64 c.sup, .slice Ai c.ifs.length ki, .slice Af c.flds.length kf, .slice Am c.mths.length km]).toArray 58)).alloc (.cells #[.int .i64 0, .int .i64 0, .slice none 0 0, .int .i64 0, .int .i64 0, .int .i64 0, .slice none 0 0, .slice none 0 0, .slice none 0 0] 179)).setRow (w.heap.size+1) ([.int .i64 c.minor, .int .i64 c.major, .slice Ap c.pool.length kp, .int .i64 c.acc, .int .i64 c.this, .int .i64 c.sup, .slice Ai c.ifs.length ki, .slice Af c.flds.length kf, .slice Am c.mths.length km]).toArray) from
   ⟨((Rf9.alloc Nr _).alloc Sp _).trans ⟨rfl,rfl,rfl,by simp,fun k hk=>setRow_other _ _ _ _ Om⟩,(show _=_ from(setRow_other _ _ _ _ Om).trans (B1.out.below (Rf9.alloc Nr _) B1.out.lt)),B2.out.row _⟩)
  have hz2:(((w.alloc (.cells ([.int .i64 c.minor, .int .i64 c.major, .slice Ap c.pool.length kp, .int .i64 c.acc, .int .i64 c.this, .int .i64 c.sup, .slice Ai c.ifs.length ki, .slice Af c.flds.length kf, .slice Am c.mths.length km]).toArray 58)).alloc (.cells #[.int .i64 0, .int .i64 0, .slice none 0 0, .int .i64 0, .int .i64 0, .int .i64 0, .slice none 0 0, .slice none 0 0, .slice none 0 0] 179)).setRow (w.heap.size+1) ([.int .i64 c.minor, .int .i64 c.major, .slice Ap c.pool.length kp, .int .i64 c.acc, .int .i64 c.this, .int .i64 c.sup, .slice Ai c.ifs.length ki, .slice Af c.flds.length kf, .slice Am c.mths.length km]).toArray).heap.size=w.heap.size+2:=by simp
  generalize (((w.alloc (.cells ([.int .i64 c.minor, .int .i64 c.major, .slice Ap c.pool.length kp, .int .i64 c.acc, .int .i64 c.this, .int .i64 c.sup, .slice Ai c.ifs.length ki, .slice Af c.flds.length kf, .slice Am c.mths.length km]).toArray 58)).alloc (.cells #[.int .i64 0, .int .i64 0, .slice none 0 0, .int .i64 0, .int .i64 0, .int .i64 0, .slice none 0 0, .slice none 0 0, .slice none 0 0] 179)).setRow (w.heap.size+1) ([.int .i64 c.minor, .int .i64 c.major, .slice Ap c.pool.length kp, .int .i64 c.acc, .int .i64 c.this, .int .i64 c.sup, .slice Ai c.ifs.length ki, .slice Af c.flds.length kf, .slice Am c.mths.length km]).toArray)=w2 at*
  have FS0:=Hq (HFS.out.new (w2.alloc (.map #[] 0)) w2.heap.size (heap_alloc_new _ _))
  have hM:(w2.alloc (.map #[] 0)).heap.size=w2.heap.size+1:=by simp
  have MS0:=Hq (HMM.out.new ((w2.alloc (.map #[] 0)).alloc (.map #[] 0)) (w2.heap.size+1) (by rw [←hM];exact heap_alloc_new _ _))
  have FS1:=Hq (HFS.out.below (W':=(w2.alloc (.map #[] 0)).alloc (.map #[] 0)) FS0.out (Rf9.alloc Nr _) Sp)
  have B4:=Hq (B3.out.below (((Below.refl w2.heap.size w2).alloc Nr (.map #[] 0)).alloc Sp (.map #[] 0)))
  rw [hz2] at MS0 FS1
  clear FS0 hM B1 B2
  go_wp2_with (first
   | (refine wpList_load_row rfl _ _ rfl w.heap.size rfl _ _ _ _ B4.out.bc Tryz.underlying58 rfl Kq9 ?_)
   | (go_at_call 124;refine aqa ?_))
  refine aqb ?_
  refine(mqO c _ _ _ _ ok _ (H0.out.keep (aqC.of_below B4.out.bel))).mono ?_
  rintro e w5 ⟨rfl,hb⟩
  have hz5:=hb.size
  simp only [World.size_alloc] at hz5
  have B5:=Hq (B4.out.below hb)
  have FS5:=Hq (HFS.out.below FS1.out hb Sd)
  have MS5:=Hq (HMM.out.below MS0.out hb Sd)
  clear hb B4 FS1 MS0
  by_cases hL:eqE c=true
  ·have HE2:=Hq (show E=2 by rw [←HE.out];unfold gqn;rw [if_pos hL])
   rw [hL]
   clear hL
   go_wp2_with fail
   go_step3
   exact⟨rfl,_,rfl,rfl,(by rw [HE2.out];rfl),Hq B5.out.bel⟩
  have HE1:=Hq (show E=if c.major<45∨52<c.major then 12 else lqe fldE mthE c (cqu conE c.pool) by rw [←HE.out];unfold gqn lqe;rw [if_neg hL])
  rw [show eqE c=false by simpa using hL]
  clear hL HE
  have m1:=B5.out.bc.cell 1 rfl
  by_cases hV:c.major<45∨52<c.major
  ·have HE2:=Hq (show E=12 by rw [HE1.out,if_pos hV])
   rcases hV with hV|hV
   ·have hb1:decide (c.major<45)=true:=by simpa using hV
    go_wp2_with fail
    go_step3
    exact⟨rfl,_,rfl,rfl,(by rw [HE2.out];rfl),Hq B5.out.bel⟩
   have hb1:decide (c.major<45)=false:=by simp;omega
   have hb2:decide (52<c.major)=true:=by simpa using hV
   go_wp2_with fail
   go_step3
   exact⟨rfl,_,rfl,rfl,(by rw [HE2.out];rfl),Hq B5.out.bel⟩
  have HE2:=Hq (show E=lqe fldE mthE c (cqu conE (c.pool.drop 0)) by rw [HE1.out,if_neg hV];rfl)
  have hb1:decide (c.major<45)=false:=by simp;omega
  have hb2:decide (52<c.major)=false:=by simp;omega
  have m2:=B5.out.bc.cell 2 rfl
  clear hV HE1
  go_wp2_with fail
  clear m1 m2
  go_loopw [4,30] (fun e i wr=> ∃k:Nat,k≤c.pool.length∧i= .int .i64 k∧e= .int .i64 0∧w.heap.size+4≤wr.heap.size∧Hid (ChW w [.int .i64 c.minor, .int .i64 c.major, .slice Ap c.pool.length kp, .int .i64 c.acc, .int .i64 c.this, .int .i64 c.sup, .slice Ai c.ifs.length ki, .slice Af c.flds.length kf, .slice Am c.mths.length km] wr)∧Hid (FS [] (w.heap.size+2) wr)∧Hid (MS [] (w.heap.size+2+1) wr)∧Hid (E=lqe fldE mthE c (cqu conE (c.pool.drop k)))) (fun e i _=>c.pool.length - (RowKit.intOf i).toNat)
  case atStart=>exact⟨0,by omega,rfl,rfl,by omega,B5,FS5,MS5,HE2⟩
  case round=>
   obtain⟨wr1,hwr⟩: ∃W,W=wr:=⟨_,rfl⟩
   subst hwr
   obtain⟨k,hk,rfl,rfl,hzr,Br,FSr,MSr,HEr⟩:=hrel
   by_cases hlt:k<c.pool.length
   ·obtain⟨x,hx⟩: ∃x,c.pool[k]?=some x:=⟨_,List.getElem?_eq_getElem hlt⟩
    have HR:=Hq (fqG (f:=conE) hx)
    have HCX:=Hq (fun W=>HCON.out x (List.mem_of_getElem? hx) W)
    have HRD:=cql (H0.out.keep (aqC.of_below Br.out.bel)).hpool k x hx
    obtain⟨b,off,hAp,hbl,p0,p1,p2,p3,p4⟩:=HRD
    subst hAp
    obtain⟨x1,x2,x3,x4,x5,x6,x7,x8,x9,x10,x11,x12⟩:=far b wr1.heap.size hbl
    clear hx
    go_wp2_with (first
     | (refine wpList_load_row rfl _ _ rfl (w.heap.size+1) rfl _ _ _ _ (Br.out.below (Rf9.alloc Nr _)).bb Tryz.underlying179 rfl Kq9 ?_)
     | (go_at_call 125;refine aqa ?_))
    refine aqb ?_
    have B6:=Hq (Br.out.below (Rf9.alloc Nr (.cells #[.int .i64 x.tag, .string x.text, .int .i64 x.num, .int .i64 x.a, .int .i64 x.b] 78)))
    refine(HCX.out _ (H0.out.keep (aqC.of_below B6.out.bel))).mono ?_
    by_cases hc0:conE x=0
    ·rw [hc0] at HR⊢
     rintro e w6 ⟨rfl,hb⟩
     have hz6:=hb.size
     simp only [World.size_alloc] at hz6
     have B7:=Hq (B6.out.below hb)
     have hbb:=Hq ((Rf9.alloc Nr (.cells #[.int .i64 x.tag, .string x.text, .int .i64 x.num, .int .i64 x.a, .int .i64 x.b] 78)).trans (hb.mono Sp))
     clear hb hc0 p0 p1 p2 p3 p4
     go_wp2_with fail
     go_roundw
     case rel=>exact⟨k+1,by omega,by go_num,rfl,by omega,B7,Hq (HFS.out.below FSr.out hbb.out Om),Hq (HMM.out.below MSr.out hbb.out Om),Hq (by rw [HEr.out,HR.out];rfl)⟩
     case measure=>simp [RowKit.intOf];omega
    have HEx:=Hq (show E=conE x by rw [HEr.out,HR.out,if_pos hc0];unfold lqe;rw [if_pos hc0])
    rintro e w6 ⟨rfl,hb⟩
    have B7:=Hq (B6.out.below hb)
    obtain⟨ce,hce⟩: ∃ce,conE x=ce:=⟨_,rfl⟩
    rw [hce] at HEx hc0⊢
    have hbn:(ce !=0)=true:=by simpa using hc0
    clear hb hc0 hce p0 p1 p2 p3 p4
    go_wp2_with fail
    go_step3
    exact⟨rfl,_,rfl,rfl,(by rw [HEx.out];rfl),Hq B7.out.bel⟩
   obtain rfl:k=c.pool.length:=by omega
   have HE3:=Hq (show E=if cqF c≠0 then cqF c else mqQ mthE c (aqZ fldE (c.flds.take 0) (c.flds.drop 0)) by rw [HEr.out,List.drop_length];rfl)
   clear hlt HEr
   go_wp2_with (first
    | (refine wpList_load_row rfl _ _ rfl (w.heap.size+1) rfl _ _ _ _ (Br.out).bb Tryz.underlying179 rfl Kq9 ?_)
    | (go_at_call 126;refine aqa ?_))
   refine aqb ?_
   have HCA:=H0.out.keep (aqC.of_below Br.out.bel)
   refine(mqN c Ap kp _ _ _ ok _ ⟨HCA.hpool,rfl,rfl,rfl⟩ HCA.hifs HN1.out HN2.out HF.out HFI.out HFT.out).mono ?_
   clear HCA
   by_cases hh0:cqF c=0
   ·rw [hh0]
    rintro e w6 ⟨rfl,hb⟩
    have HE4:=Hq (show E=mqQ mthE c (aqZ fldE (c.flds.take 0) (c.flds.drop 0)) by rw [HE3.out,if_neg (fun h=>h hh0)])
    have hz6:=hb.size
    have B6:=Hq (Br.out.below hb)
    have FS6:=Hq (HFS.out.below FSr.out hb Om)
    have MS6:=Hq (HMM.out.below MSr.out hb Om)
    clear hb hh0 HE3 Br FSr MSr
    have m7:=B6.out.bc.cell 7 rfl
    go_wp2_with fail
    clear m7
    go_loopw [4,47] (fun e i wr=> ∃k:Nat,k≤c.flds.length∧i= .int .i64 k∧e= .int .i64 0∧w.heap.size+4≤wr.heap.size∧Hid (ChW w [.int .i64 c.minor, .int .i64 c.major, .slice Ap c.pool.length kp, .int .i64 c.acc, .int .i64 c.this, .int .i64 c.sup, .slice Ai c.ifs.length ki, .slice Af c.flds.length kf, .slice Am c.mths.length km] wr)∧Hid (FS (c.flds.take k) (w.heap.size+2) wr)∧Hid (MS [] (w.heap.size+2+1) wr)∧Hid (E=mqQ mthE c (aqZ fldE (c.flds.take k) (c.flds.drop k)))) (fun e i _=>c.flds.length - (RowKit.intOf i).toNat)
    case atStart=>exact⟨0,by omega,rfl,rfl,by omega,B6,FS6,MS6,HE4⟩
    case round=>
     obtain⟨wr2,hwr⟩: ∃W,W=wr:=⟨_,rfl⟩
     subst hwr
     obtain⟨k,hk,rfl,rfl,hzr2,Br,FSr,MSr,HEr⟩:=hrel
     by_cases hlt:k<c.flds.length
     ·obtain⟨x,hx⟩: ∃x,c.flds[k]?=some x:=⟨_,List.getElem?_eq_getElem hlt⟩
      have HR:=Hq (dqs (f:=fldE) hx)
      have HCX:=Hq (fun W b=>HFLD.out k x hx W b)
      have HRD:=cqv (H0.out.keep (aqC.of_below Br.out.bel)).hflds k x hx
      obtain⟨b,off,hAp,hbl,p0,p1,p2,p3⟩:=HRD
      subst hAp
      obtain⟨x1,x2,x3,x4,x5,x6,x7,x8,x9,x10,x11,x12⟩:=far b wr2.heap.size hbl
      clear hx
      go_wp2_with (first
       | (refine wpList_load_row rfl _ _ rfl (w.heap.size+1) rfl _ _ _ _ (Br.out.below (Rf9.alloc Nr _)).bb Tryz.underlying179 rfl Kq9 ?_)
       | (go_at_call 127;refine aqa ?_))
      refine aqb ?_
      have B6:=Hq (Br.out.below (Rf9.alloc Nr (.cells #[.int .i64 x.acc, .int .i64 x.name, .int .i64 x.desc, .int .i64 x.value] 119)))
      have FS6:=Hq (HFS.out.below FSr.out (Rf9.alloc Nr (.cells #[.int .i64 x.acc, .int .i64 x.name, .int .i64 x.desc, .int .i64 x.value] 119)) Om)
      have MS6:=Hq (HMM.out.below MSr.out (Rf9.alloc Nr (.cells #[.int .i64 x.acc, .int .i64 x.name, .int .i64 x.desc, .int .i64 x.value] 119)) Om)
      refine(HCX.out _ (w.heap.size+2) (H0.out.keep (aqC.of_below B6.out.bel)) Om FS6.out).mono ?_
      by_cases hc0:fldE (c.flds.take k) x=0
      ·rw [hc0] at HR⊢
       rintro e w6 ⟨rfl,hb,hfs⟩
       have hz6:=hb.size
       simp only [World.size_alloc] at hz6
       have B7:=Hq (B6.out.but hb Sp)
       have FS7:=Hq hfs
       have MS7:=Hq (HMM.out.keep _ _ _ _ MS6.out (hb.block _ Sd Sp))
       clear hb hc0 p0 p1 p2 p3 hfs
       go_wp2_with fail
       go_roundw
       case rel=>exact⟨k+1,by omega,by go_num,rfl,by omega,B7,FS7,MS7,Hq (by rw [HEr.out,HR.out];rfl)⟩
       case measure=>simp [RowKit.intOf];omega
      have HEx:=Hq (show E=fldE (c.flds.take k) x by rw [HEr.out,HR.out,if_pos hc0];unfold mqQ;rw [if_pos hc0])
      rintro e w6 ⟨rfl,hb,_⟩
      have B7:=Hq (B6.out.but hb Sp)
      obtain⟨ce,hce⟩: ∃ce,fldE (c.flds.take k) x=ce:=⟨_,rfl⟩
      rw [hce] at HEx hc0⊢
      have hbn:(ce !=0)=true:=by simpa using hc0
      clear hb hc0 hce p0 p1 p2 p3
      go_wp2_with fail
      go_step3
      exact⟨rfl,_,rfl,rfl,(by rw [HEx.out];rfl),Hq B7.out.bel⟩
     obtain rfl:k=c.flds.length:=by omega
     have HE4:=Hq (show E=aqZ mthE (c.mths.take 0) (c.mths.drop 0) by rw [HEr.out,List.drop_length];rfl)
     have m8:=Br.out.bc.cell 8 rfl
     clear hlt HEr
     go_wp2_with fail
     clear m8
     go_loopw [4,61] (fun e i wr=> ∃k:Nat,k≤c.mths.length∧i= .int .i64 k∧e= .int .i64 0∧w.heap.size+4≤wr.heap.size∧Hid (ChW w [.int .i64 c.minor, .int .i64 c.major, .slice Ap c.pool.length kp, .int .i64 c.acc, .int .i64 c.this, .int .i64 c.sup, .slice Ai c.ifs.length ki, .slice Af c.flds.length kf, .slice Am c.mths.length km] wr)∧Hid (MS (c.mths.take k) (w.heap.size+2+1) wr)∧Hid (E=aqZ mthE (c.mths.take k) (c.mths.drop k))) (fun e i _=>c.mths.length - (RowKit.intOf i).toNat)
     case atStart=>exact⟨0,by omega,rfl,rfl,by omega,Br,MSr,HE4⟩
     case round=>
      obtain⟨wr3,hwr⟩: ∃W,W=wr:=⟨_,rfl⟩
      subst hwr
      obtain⟨k,hk,rfl,rfl,hzr3,Br,MSr,HEr⟩:=hrel
      by_cases hlt:k<c.mths.length
      ·obtain⟨ms',e1,e2,e3⟩:=(H0.out.keep (aqC.of_below Br.out.bel)).hmths
       have hml:ms'.length=c.mths.length:=by rw [←e1,List.length_map]
       obtain⟨x,cv,tv,hx⟩: ∃x cv tv,ms'[k]?=some (x,cv,tv):=⟨_,_,_,List.getElem?_eq_getElem Om⟩
       have hx':c.mths[k]?=some x:=by rw [←e1,List.getElem?_map,hx];rfl
       have HME:=Hq (e3 (x,cv,tv) (List.mem_of_getElem? hx))
       have HR:=Hq (dqs (f:=mthE) hx')
       have HCX:=Hq (fun W b cv tv=>HMTH.out k x hx' W b cv tv)
       have HRD:=dqf e2 hml k x cv tv hx
       obtain⟨Ac,kc,hcv,_⟩:=id HME.out.hcode
       obtain⟨At,kt,htv,_⟩:=id HME.out.htraps
       simp only at hcv htv
       subst hcv
       subst htv
       obtain⟨b,off,hAp,hbl,p0,p1,p2,p3,p4,p5,p6,p7⟩:=HRD
       subst hAp
       obtain⟨x1,x2,x3,x4,x5,x6,x7,x8,x9,x10,x11,x12⟩:=far b wr3.heap.size hbl
       clear hx hx' e1 e2 e3 hml
       go_wp2_with (first
        | (refine wpList_load_row rfl _ _ rfl (w.heap.size+1) rfl _ _ _ _ (Br.out.below (Rf9.alloc Nr _)).bb Tryz.underlying179 rfl Kq9 ?_)
        | (go_at_call 128;refine aqa ?_))
       refine aqb ?_
       have B6:=Hq (Br.out.below (Rf9.alloc Nr (.cells #[.int .i64 x.acc, .int .i64 x.name, .int .i64 x.desc, .bool x.has, .int .i64 x.stack, .int .i64 x.locals, .slice Ac x.code.length kc, .slice At x.traps.length kt] 91)))
       have MS6:=Hq (HMM.out.below MSr.out (Rf9.alloc Nr (.cells #[.int .i64 x.acc, .int .i64 x.name, .int .i64 x.desc, .bool x.has, .int .i64 x.stack, .int .i64 x.locals, .slice Ac x.code.length kc, .slice At x.traps.length kt] 91)) Om)
       have HK6:=Hq (aqC.of_below (ok:=ok) ((Below.refl wr3.heap.size wr3).alloc Nr (.cells #[.int .i64 x.acc, .int .i64 x.name, .int .i64 x.desc, .bool x.has, .int .i64 x.stack, .int .i64 x.locals, .slice Ac x.code.length kc, .slice At x.traps.length kt] 91)))
       refine(HCX.out _ (w.heap.size+2+1) _ _ (H0.out.keep (aqC.of_below B6.out.bel)) ⟨HME.out.hcode.keep HK6.out,HME.out.htraps.keep HK6.out⟩ Om MS6.out).mono ?_
       by_cases hc0:mthE (c.mths.take k) x=0
       ·rw [hc0] at HR⊢
        rintro e w6 ⟨rfl,hb,hms⟩
        have hz6:=hb.size
        simp only [World.size_alloc] at hz6
        have B7:=Hq (B6.out.but hb Sp)
        have MS7:=Hq hms
        clear hb hc0 p0 p1 p2 p3 p4 p5 p6 p7 hms
        go_wp2_with fail
        go_roundw
        case rel=>exact⟨k+1,by omega,by go_num,rfl,by omega,B7,MS7,Hq (by rw [HEr.out,HR.out];rfl)⟩
        case measure=>simp [RowKit.intOf];omega
       have HEx:=Hq (show E=mthE (c.mths.take k) x by rw [HEr.out,HR.out,if_pos hc0])
       rintro e w6 ⟨rfl,hb,_⟩
       have B7:=Hq (B6.out.but hb Sp)
       obtain⟨ce,hce⟩: ∃ce,mthE (c.mths.take k) x=ce:=⟨_,rfl⟩
       rw [hce] at HEx hc0⊢
       have hbn:(ce !=0)=true:=by simpa using hc0
       clear hb hc0 hce p0 p1 p2 p3 p4 p5 p6 p7
       go_wp2_with fail
       go_step3
       exact⟨rfl,_,rfl,rfl,(by rw [HEx.out];rfl),Hq B7.out.bel⟩
      obtain rfl:k=c.mths.length:=by omega
      have HE5:=Hq (show E=0 by rw [HEr.out,List.drop_length];rfl)
      clear hlt HEr
      go_wp2_with fail
      go_step3
      go_wp2_with fail
      rw [jqv]
      go_ret
      exact⟨by rw [HE5.out];rfl,Br.out.bel⟩
   have HEx:=Hq (show E=cqF c by rw [HE3.out,if_pos hh0])
   rintro e w6 ⟨rfl,hb⟩
   have B7:=Hq (Br.out.below hb)
   obtain⟨ce,hce⟩: ∃ce,cqF c=ce:=⟨_,rfl⟩
   rw [hce] at HEx hh0⊢
   have hbn:(ce !=0)=true:=by simpa using hh0
   clear hb hh0 hce HE3
   go_wp2_with fail
   go_step3
   exact⟨rfl,_,rfl,rfl,(by rw [HEx.out];rfl),Hq B7.out.bel⟩
 intro a w' ha
 obtain⟨t,rfl,hs,h4,hb⟩:=ha
 go_wp2_with fail
 rw [jqv]
 refine bodyPost_ret (v:= .int .i64 E) ?_ rfl ⟨rfl,hb.out⟩
 obtain⟨hlt,h5⟩:=Array.getElem?_eq_some_iff.1 h4
 simp [results,Tryz.results95,h5,hs,go_sem]
end Go.Proofs.YtdbniocnjhfhdaaGreatDoor
