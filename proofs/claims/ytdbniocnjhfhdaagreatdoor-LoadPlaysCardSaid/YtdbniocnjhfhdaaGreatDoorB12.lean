/- Part 12 of what the laws rest on: walks. Conditions: those that each theorem names. -/
import Derived.Test.YtdbniocnjhfhdaaGreatDoorB11
set_option linter.unusedSimpArgs false
set_option linter.unusedVariables false
set_option maxRecDepth 100000
set_option maxHeartbeats 1000000
namespace Go.Proofs.YtdbniocnjhfhdaaGreatDoor
open Go Go.RowKit Lib
def oqK (k:Nat) (m:Value):TyV:=⟨dqL++(cqZ k).1,hqt (cqZ k).2,33, .slice none 0 0, .slice none 0 0,m, [], [],nq8⟩
def lqj:List cqW:= [⟨1025,⟨#[114,117,110]⟩,⟨#[40,41,86]⟩,false,0⟩]
def sysM:List cqW:= [⟨265,⟨#[112,114,105,110,116]⟩,⟨#[40,73,41,86]⟩,false,0⟩,⟨265,⟨#[115,116,97,114,116]⟩,⟨#[40,76,118,109,47,84,97,115,107,59,41,86]⟩,false,0⟩]
def bqj:List TyK:=(List.range 24).map bqS++ [([118,109,47,84,97,115,107],dqL++ [79,98,106,101,99,116],1537, [], [],lqj),([118,109,47,83,121,115],dqL++ [79,98,106,101,99,116],49, [], [],sysM)]
theorem lqk (w:World):Calls Tryz.prog 25 #[] w fun e w'=> ∃g cap ts,e= .returned (.slice (some ⟨g,0,none⟩) 26 cap)∧ts.map TyV.key=bqj∧cqN w w' (.slice (some ⟨g,0,none⟩) 26 cap) ts:=by
 go_enter Tryz.func25,Tryz.ntmps25
 go_wp2_with (go_at_call 40;refine(iqu _).mono ?_;rintro e w1 ⟨rfl,hb1⟩;have HB1:=Hq hb1;clear hb1)
 have hz1:=HB1.out.size
 go_loopw [2,6] (fun v i wr=> ∃(k:Nat) (ts:List TyV),i= .int .i64 k∧k≤24∧ts.length=k∧Hid (ts.map TyV.key=(List.range k).map bqS)∧Hid (cqN w wr v ts)) (fun _ i _=>24 - (RowKit.intOf i).toNat)
 case atStart=>exact⟨0, [],rfl,by omega,rfl,by first|exact rfl|exact Hq rfl,by first|exact⟨World.ownsRow_nil _ _ _ _,fun g h t ht=>by simp at ht,HB1.out⟩ |exact Hq ⟨World.ownsRow_nil _ _ _ _,fun g h t ht=>by simp at ht,HB1.out⟩⟩
 case round=>
  obtain⟨k,ts,rfl,hk,hl,HK,HT⟩:=hrel
  have hzr:=HT.out.below.size
  by_cases hlt:k<24
  ·have hix:=fun W=>jq8 W k hlt
   obtain⟨hn1,hn2⟩:=jq9 k hlt
   have HM:=Hq fun W=>mqR (cqZ k).1 (cqZ k).2 hn1 hn2 W
   clear hn1 hn2
   go_wp2_with (go_at_call 39;refine(HM.out _).mono ?_;rintro e w2 ⟨⟨gm,rfl,hgm1,hgm2,hgm3⟩,hb2⟩;refine aqa ?_)
   have HT2:=Hq ((HT.out.keep (Rf9.alloc Nr _)).keep hb2)
   have hz2:=HT2.out.below.size
   have hgr:wr.heap.size<gm:=by simp at hgm1;omega
   clear hb2
   refine aqb ?_
   go_wp2_with (at_builtin;refine bqi rfl _ _ 31 rfl Tryz.underlying31 cqd rfl Om w.heap.size rfl ((HT2.out.own_at hl).alloc _) rfl rfl (fun _=> ⟨_,rfl,aqm _ _ _ _ Sp⟩) Oc Om Mz Om Sd ?_;intro g3 k3 w3 ho3 hg3 hb3 hgg3 hlt3;refine aqa ?_)
   have HT3:=Hq ((HT2.out.keep (Rf9.alloc Nr _)).snoc_at hl (t:=oqK k (.slice (some ⟨gm,0,none⟩) 1 1)) ho3 hg3 hgg3 hb3 (fun g hg=>by
    refine⟨cqA _ _ _,cqA _ _ _,⟨_,1,1,rfl,Nat.le_refl _,by omega,rfl,fun _=> ⟨gm,0,rfl,by simp;omega, ?_,fun j u hu=> ?_⟩⟩⟩
    ·rcases hg with hg| ⟨_,hg⟩ |hg
     ·have:=(HT.out.own.lt _ hg).2
      omega
     ·rw [hg]
      simp
      omega
     omega
    have hu2:([.int .i64 1, .string ⟨#[60,105,110,105,116,62]⟩, .string ⟨#[40,41,86]⟩, .bool true, .int .i64 0]:List Value)[j]?=some u:=hu
    rw [World.cell?_alloc_lt _ _ _ hgm2,Nat.zero_add,cell_of_row w2 gm j _ _ _ hgm3]
    simpa using hu2))
   clear ho3 hg3 hb3 hgg3
   refine aqb ?_
   go_wp2_with fail
   go_roundw
   case rel=>
    refine⟨k+1,ts++ [oqK k (.slice (some ⟨gm,0,none⟩) 1 1)],by go_num,by omega,by simp [hl],Hq ?_,HT3⟩
    rw [List.map_append,HK.out,List.range_succ,List.map_append]
    rfl
   case measure=>simp [RowKit.intOf];omega
  have hk24:k=24:=by omega
  subst hk24
  go_wp2_with (at_builtin;refine bqi rfl _ _ 31 rfl Tryz.underlying31 cqd rfl Om w.heap.size rfl (((HT.out.own_at hl).alloc _).alloc _) rfl rfl (fun _=> ⟨_,rfl,aqm _ _ _ _ Sp⟩) Oc Om Mz Om Sd ?_;intro g3 k3 w3 ho3 hg3 hb3 hgg3 hlt3;refine aqa ?_)
  have HT3:=Hq (((HT.out.keep (Rf9.alloc Nr _)).keep (Rf9.alloc Nr _)).snoc_at hl (t:=⟨[118,109,47,84,97,115,107],dqL++ [79,98,106,101,99,116],1537, .slice none 0 0, .slice none 0 0, .slice (some ⟨wr.heap.size,0,none⟩) 1 1, [], [],lqj⟩) ho3 hg3 hgg3 hb3 (fun g hg=>by
   refine⟨cqA _ _ _,cqA _ _ _,⟨_,1,1,rfl,Nat.le_refl _,by omega,rfl,fun _=> ⟨wr.heap.size,0,rfl,by simp;omega, ?_,fun j u hu=> ?_⟩⟩⟩
   ·rcases hg with hg| ⟨_,hg⟩ |hg
    ·have:=(HT.out.own.lt _ hg).2
     omega
    ·rw [hg]
     simp
     omega
    omega
   have hu2:([.int .i64 1025, .string ⟨#[114,117,110]⟩, .string ⟨#[40,41,86]⟩, .bool false, .int .i64 0]:List Value)[j]?=some u:=hu
   rw [World.cell?_alloc_lt _ _ _ Sp,Nat.zero_add,cell_of_row _ wr.heap.size j _ _ _ (heap_alloc_new _ _)]
   simpa using hu2))
  have hl3:(ts++ [(⟨[118,109,47,84,97,115,107],dqL++ [79,98,106,101,99,116],1537, .slice none 0 0, .slice none 0 0, .slice (some ⟨wr.heap.size,0,none⟩) 1 1, [], [],lqj⟩:TyV)]).length=25:=by simp [hl]
  have hz3:=HT3.out.below.size
  have hz3r:=hg3.size
  simp only [World.size_alloc] at hz3r
  clear ho3 hg3 hb3 hgg3
  refine aqb ?_
  go_wp2_with (at_builtin;refine bqi rfl _ _ 31 rfl Tryz.underlying31 cqd rfl Om w.heap.size rfl (((HT3.out.own_at hl3).alloc _).alloc _) rfl rfl (fun _=> ⟨_,rfl,aqm _ _ _ _ Sp⟩) Oc Om Sm9 Om Sd ?_;intro g4 k4 w4 ho4 hg4 hb4 hgg4 hlt4;refine aqa ?_)
  have HT4:=Hq (((HT3.out.keep (Rf9.alloc Nr _)).keep (Rf9.alloc Nr _)).snoc_at hl3 (t:=⟨[118,109,47,83,121,115],dqL++ [79,98,106,101,99,116],49, .slice none 0 0, .slice none 0 0, .slice (some ⟨w3.heap.size,0,none⟩) 2 2, [], [],sysM⟩) ho4 hg4 hgg4 hb4 (fun g hg=>by
   refine⟨cqA _ _ _,cqA _ _ _,⟨_,2,2,rfl,Nat.le_refl _,by omega,rfl,fun _=> ⟨w3.heap.size,0,rfl,by simp;omega, ?_,fun j u hu=> ?_⟩⟩⟩
   ·rcases hg with hg| ⟨hg,_⟩ |hg
    ·have:=(HT3.out.own.lt _ hg).2
     omega
    ·simp [Value.ownBlock] at hg
    omega
   have hu2:([.int .i64 265, .string ⟨#[112,114,105,110,116]⟩, .string ⟨#[40,73,41,86]⟩, .bool false, .int .i64 0, .int .i64 265, .string ⟨#[115,116,97,114,116]⟩, .string ⟨#[40,76,118,109,47,84,97,115,107,59,41,86]⟩, .bool false, .int .i64 0]:List Value)[j]?=some u:=hu
   rw [World.cell?_alloc_lt _ _ _ Sp,Nat.zero_add,cell_of_row _ w3.heap.size j _ _ _ (heap_alloc_new _ _)]
   simpa using hu2))
  clear ho4 hg4 hb4 hgg4
  refine aqb ?_
  go_wp2_with fail
  go_ret
  refine⟨g4,k4,_,rfl, ?_,HT4.out⟩
  rw [List.map_append,List.map_append,HK.out]
  rfl
end Go.Proofs.YtdbniocnjhfhdaaGreatDoor
namespace Go.Proofs.YtdbniocnjhfhdaaGreatDoor
open Go Go.RowKit Lib Go.Maps
structure LdS (w W:World) (lb bd bf bk bg:Nat) (nd nf nk ng:Nat) (sd sf sk sg:Nat) (fd ff fk fg:List UInt8→Option Value) (v:Value) (ts:List TyV):Prop where
 c0:W.cell? ⟨lb,0,none⟩=some (.map (some bd))
 c1:W.cell? ⟨lb,1,none⟩=some (.map (some bf))
 c2:W.cell? ⟨lb,2,none⟩=some (.map (some bk))
 c3:W.cell? ⟨lb,3,none⟩=some (.map (some bg))
 c4:W.cell? ⟨lb,4,none⟩=some v
 fz: ∀o,W.frozen? ⟨lb,o,none⟩=false
 hd:cqa W Tryz.prog 9 bd nd fd sd
 hf:cqa W Tryz.prog 9 bf nf ff sf
 hk:cqa W Tryz.prog 9 bk nk fk sk
 hg:cqa W Tryz.prog 9 bg ng fg sg
 ty:cqN w W v ts
 ord:w.heap.size≤bd∧bd<bf∧bf<bk∧bk<bg∧bg<lb
 new: ∀g,v.ownBlock=some g→bg<g∧g≠lb
 lt:lb<W.heap.size
 rlb: ∀t∈ts,t.reads W lb
def bqg (ks:List (List UInt8)) (s:List UInt8):Option Value:=if s∈ks then some (.int .i64 1) else none
theorem dqY (ks:List (List UInt8)) (k:List UInt8):iqj (bqg ks) k (.int .i64 1)=bqg (ks++ [k]):=by
 funext s
 unfold iqj bqg
 by_cases h:s=k
 ·simp [h]
 simp [h]
theorem cqI: ∀(ts:List TyV) (j:Nat) (t:TyV),ts[j]?=some t→ ∀q,q<6→(bqE ts)[j*6+q]?=t.cells[q]?
 | [],j,t,h,q,hq=>by simp at h
 |y::ts,0,t,h,q,hq=>by
  simp at h
  subst h
  show(y.cells++bqE ts)[0*6+q]?=_
  rw [List.getElem?_append_left (by simp [TyV.cells];omega)]
  congr 1
  omega
 |y::ts,j+1,t,h,q,hq=>by
  show(y.cells++bqE ts)[(j+1)*6+q]?=_
  rw [List.getElem?_append_right (by simp [TyV.cells];omega),show(j+1)*6+q - y.cells.length=j*6+q by simp [TyV.cells];omega]
  exact cqI ts j t (by simpa using h) q hq
theorem RdC.turned {w w':World} {P:Program} {k:TypeId} {b n sz g size:Nat} {f:List UInt8→Option Value} {v:Value} {cs:List Value} (hs:0<size) (h:RdC w g size v cs) (hM:cqa w P k b n f sz) (hg:w.grownBy w' (some b)):RdC w' g size v cs:=by
 obtain⟨A,m,cap,rfl,h1,h2,hl,h3⟩:=h
 refine⟨A,m,cap,rfl,h1,h2,hl,fun h0=> ?_⟩
 obtain⟨b',off,e,hlt,hne,hc⟩:=h3 h0
 have hb:b'≠b:=fun e=>by
  subst e
  have hp:0<cs.length:=by rw [hl];exact Nat.mul_pos h0 hs
  have h4:=hc 0 _ (List.getElem?_eq_getElem hp)
  rw [hM.no_cell] at h4
  cases h4
 refine⟨b',off,e,Nat.lt_of_lt_of_le hlt hg.size,hne,fun j u hu=> ?_⟩
 rw [World.cell?_of_block (w:=w) (hg.block b' hlt (fun e=>hb (by injection e)))]
 exact hc j u hu
theorem TyV.reads.turned {w w':World} {P:Program} {k:TypeId} {b n sz g:Nat} {f:List UInt8→Option Value} {t:TyV} (h:t.reads w g) (hM:cqa w P k b n f sz) (hg:w.grownBy w' (some b)):t.reads w' g:=⟨h.1.turned Om hM hg,h.2.1.turned Om hM hg,h.2.2.turned Om hM hg⟩
theorem cqN.turned {w0 w w':World} {P:Program} {k:TypeId} {b n sz:Nat} {f:List UInt8→Option Value} {v:Value} {ts:List TyV} (h:cqN w0 w v ts) (hM:cqa w P k b n f sz) (hg:w.grownBy w' (some b)) (hb:w0.heap.size≤b) (hv: ∀g,v.ownBlock=some g→g≠b):cqN w0 w' v ts where
 own:=aqj h.own fun q hq=>hg.block q (h.own.lt q hq).2 (fun e=>hv q hq (by injection e))
 reads:=fun g hg' t ht=> (h.reads g hg' t ht).turned hM hg
 below:=h.below.grown hg h.below.size (fun k hk=>by injection hk with hk;omega)
theorem dqw {w:World} {base base':Nat} {e:TypeId} {size n:Nat} {v:Value} {xs:List Value} (h:w.ownsRow base e size v n xs) (hb:base'≤base):w.ownsRow base' e size v n xs:=by
 rcases h.2 with h0| ⟨g,cap,cur,rfl,h1,r⟩
 ·exact⟨h.1, .inl h0⟩
 exact⟨h.1, .inr ⟨g,cap,cur,rfl,Nat.le_trans hb h1,r⟩⟩
theorem cqN.low {w0 w1 w:World} {v:Value} {ts:List TyV} (h:cqN w1 w v ts) (hb:Below w0.heap.size w0 w1):cqN w0 w v ts:=⟨dqw h.own hb.size,fun g hg=>h.reads g (hg.imp id fun h=>by have:=hb.size;omega),hb.trans (h.below.mono hb.size)⟩
section
variable {w W W':World} {lb bd bf bk bg nd nf nk ng sd sf sk sg:Nat} {fd ff fk fg:List UInt8→Option Value} {v:Value} {ts:List TyV}
theorem LdS.below (h:LdS w W lb bd bf bk bg nd nf nk ng sd sf sk sg fd ff fk fg v ts) (hb:Below W.heap.size W W'):LdS w W' lb bd bf bk bg nd nf nk ng sd sf sk sg fd ff fk fg v ts where
 c0:=(hb.cell (p:=⟨lb,0,none⟩) h.lt).trans h.c0
 c1:=(hb.cell (p:=⟨lb,1,none⟩) h.lt).trans h.c1
 c2:=(hb.cell (p:=⟨lb,2,none⟩) h.lt).trans h.c2
 c3:=(hb.cell (p:=⟨lb,3,none⟩) h.lt).trans h.c3
 c4:=(hb.cell (p:=⟨lb,4,none⟩) h.lt).trans h.c4
 fz:=fun o=> (hb.frozen (p:=⟨lb,o,none⟩) h.lt).trans (h.fz o)
 hd:=h.hd.keep (hb.block _ h.hd.lt)
 hf:=h.hf.keep (hb.block _ h.hf.lt)
 hk:=h.hk.keep (hb.block _ h.hk.lt)
 hg:=h.hg.keep (hb.block _ h.hg.lt)
 ty:=h.ty.keep hb
 ord:=h.ord
 new:=h.new
 lt:=Nat.lt_of_lt_of_le h.lt hb.size
 rlb:=fun t ht=> (h.rlb t ht).keep (fun k hk _=>hb.block k hk) hb.size (.inl rfl)
theorem LdS.putk (h:LdS w W lb bd bf bk bg nd nf nk ng sd sf sk sg fd ff fk fg v ts) {n' s':Nat} {f':List UInt8→Option Value} (hM:cqa W' Tryz.prog 9 bk n' f' s') (hg:W.grownBy W' (some bk)):
  LdS w W' lb bd bf bk bg nd nf n' ng sd sf s' sg fd ff f' fg v ts:=by
 have ho:=h.ord
 have hb: ∀k,k<W.heap.size→k≠bk→W'.heap[k]?=W.heap[k]?:=fun k hk hne=>hg.block k hk (fun e=>hne (by injection e))
 have hl:lb≠bk:=by omega
 have hc: ∀o,W'.cell? ⟨lb,o,none⟩=W.cell? ⟨lb,o,none⟩:=fun o=>World.cell?_of_block (hb lb h.lt hl)
 exact⟨(hc 0).trans h.c0,(hc 1).trans h.c1,(hc 2).trans h.c2,(hc 3).trans h.c3,(hc 4).trans h.c4,fun o=> (World.frozen?_of_block (hb lb h.lt hl)).trans (h.fz o),
  h.hd.keep (hb _ h.hd.lt Om),h.hf.keep (hb _ h.hf.lt Om),hM,h.hg.keep (hb _ h.hg.lt Om),h.ty.turned h.hk hg Om (fun g hv=>by have:=h.new g hv;omega),h.ord,h.new,Nat.lt_of_lt_of_le h.lt hg.size,fun t ht=> (h.rlb t ht).turned h.hk hg⟩
end
theorem dqZ (w:World) (P:Program) (k:TypeId) (b:Nat) (hb:b=w.heap.size):cqa (w.alloc (.map #[] 0)) P k b 0 (fun _=>none) 0:=by
 subst hb
 exact fqt w P k
theorem dqH: ∀k∈bqj,k.1.length≤1000:=by decide
theorem oqb (w:World):Calls Tryz.prog 12 #[] w fun e w'=> ∃lb bd bf bk bg nk sk v ts,e= .returned (.pointer (some ⟨lb,0,none⟩))∧ts.map TyV.key=bqj∧
  LdS w w' lb bd bf bk bg 0 0 nk 0 0 0 sk 0 (fun _=>none) (fun _=>none) (bqg (ts.map TyV.name)) (fun _=>none) v ts∧nk≤26∧Below w.heap.size w w':=by
 have hmm:= @run_makeMap Tryz.prog
 go_enter Tryz.func12,Tryz.ntmps12
 go_wp2_with (go_at_call 25;refine(lqk _).mono ?_;rintro e w1 ⟨g,cap,ts,rfl,hk,ht⟩;refine aqa ?_)
 have HY:=Hq ht
 have hgr:=(ht.own.lt g rfl)
 have hzt:=ht.below.size
 simp only [World.size_alloc] at hgr hzt
 have HK:=Hq hk
 clear hk ht
 refine aqb ?_
 go_wp2_with fail
 have L0:LdS w (w1.alloc (.cells #[.map (some w.heap.size), .map (some (w.heap.size+1)), .map (some (w.heap.size+1+1)), .map (some (w.heap.size+1+1+1)), .slice (some ⟨g,0,none⟩) 26 cap] 65)) w1.heap.size w.heap.size (w.heap.size+1) (w.heap.size+1+1) (w.heap.size+1+1+1)
   0 0 0 0 0 0 0 0 (fun _=>none) (fun _=>none) (bqg []) (fun _=>none) (.slice (some ⟨g,0,none⟩) 26 cap) ts:=by
  have hb:=HY.out.below
  have e0:bqg []=fun _=>none:=by funext s;simp [bqg]
  rw [e0]
  refine⟨by simp [go_sem],by simp [go_sem],by simp [go_sem],by simp [go_sem],by simp [go_sem],fun o=>by simp [go_sem], ?_, ?_, ?_, ?_, ?_,by omega,fun g' hg'=> ?_,by simp,fun t ht=> (HY.out.reads g (.inl rfl) t ht).keep (fun k hk _=> (Rf9.alloc Nr _).block k hk) Sp (.inr Nr)⟩
  ·refine(fqt w Tryz.prog 9).keep ?_
   rw [Below.heap_alloc _ _ _ Om,hb.block _ Sd,Below.heap_alloc _ _ _ Sd,Below.heap_alloc _ _ _ Sd,Below.heap_alloc _ _ _ Sp]
  ·refine(dqZ (w.alloc (.map #[] 0)) Tryz.prog 9 _ Sp).keep ?_
   rw [Below.heap_alloc _ _ _ Om,hb.block _ (by simp;try omega),Below.heap_alloc _ _ _ (by simp;try omega),Below.heap_alloc _ _ _ Sp]
  ·refine(dqZ ((w.alloc (.map #[] 0)).alloc (.map #[] 0)) Tryz.prog 9 _ Sp).keep ?_
   rw [Below.heap_alloc _ _ _ Om,hb.block _ (by simp;try omega),Below.heap_alloc _ _ _ Sp]
  ·refine(dqZ (((w.alloc (.map #[] 0)).alloc (.map #[] 0)).alloc (.map #[] 0)) Tryz.prog 9 _ Sp).keep ?_
   rw [Below.heap_alloc _ _ _ Om,hb.block _ Sp]
  ·exact(HY.out.low ((((Rf9.alloc Nr _).alloc Sp _).alloc Sd _).alloc Sd _)).keep (Rf9.alloc Nr _)
  have e:g=g':=by simpa [Value.ownBlock] using hg'
  subst e
  omega
 have HL0:=Hq L0
 clear L0
 go_loopw [3,16] (fun _ i wr=> ∃j sk:Nat,i= .int .i64 j∧j≤26∧Hid (LdS w wr w1.heap.size w.heap.size (w.heap.size+1) (w.heap.size+1+1) (w.heap.size+1+1+1) 0 0 j 0 0 0 sk 0 (fun _=>none) (fun _=>none) (bqg ((ts.take j).map TyV.name)) (fun _=>none) (.slice (some ⟨g,0,none⟩) 26 cap) ts)) (fun _ i _=>26 - (RowKit.intOf i).toNat)
 case atStart=>exact⟨0,0,rfl,by omega,by first|exact HL0|exact HL0.out⟩
 case round=>
  obtain⟨j,sk,rfl,hj,HL⟩:=hrel
  have hlen:ts.length=26:=by
   have:=congrArg List.length HK.out
   simpa [bqj] using this
  by_cases hlt:j<26
  ·obtain⟨t,ht⟩: ∃t,ts[j]?=some t:=⟨_,List.getElem?_eq_getElem Om⟩
   have hcells:=cqI ts j t ht
   have hreads:=HL.out.ty.reads g (.inl rfl) t (List.mem_of_getElem? ht)
   have hshort:=dqH (t.key) (by rw [←HK.out];exact List.mem_map_of_mem (List.mem_of_getElem? ht))
   have HTK:=Hq (show(ts.take (j+1)).map TyV.name=(ts.take j).map TyV.name++ [t.name] by rw [List.take_add_one,ht];simp)
   have hown:=fun q (hq:q<6)=> ((HL.out.ty.own_at hlen).cellAt (j*6+q) Om).trans (hcells q hq)
   obtain⟨nm,sp,ac,i1,f1,m1⟩:=t
   obtain⟨⟨A1,n1,k1,h1,_⟩,⟨A2,n2,k2,h2,_⟩,⟨A3,n3,k3,h3,_⟩⟩:=hreads
   simp only at h1 h2 h3
   subst h1 h2 h3
   have q0:=hown 0 Om
   have q1:=hown 1 Om
   have q2:=hown 2 Om
   have q3:=hown 3 Om
   have q4:=hown 4 Om
   have q5:=hown 5 Om
   simp only [TyV.cells,List.getElem?_cons_zero,List.getElem?_cons_succ,Nat.add_zero] at q0 q1 q2 q3 q4 q5
   have C2:=HL.out.c2
   have hlw:=HL.out.lt
   clear hcells hown ht
   go_wp2_with fail
   refine bqW 6 Kq9 Kq9 ?_
   simp only [List.take_succ_cons,List.take_zero,List.drop_succ_cons,List.drop_zero]
   repeat go_big_quiet_step (fail)
   refine wpQuiet_nil ?_
   have hs1:nm.length≤1000:=hshort
   go_wp2_with (at_mapUpdate;refine eqp rfl _ _ _ rfl Tryz.underlying9 Tryz.underlying63 rfl (HL.out.below (below_drewN (Rf9.alloc Nr _) 1)).hk Uf9 rfl (by show nm.toArray.size≤_;simp [maxLen];omega) rfl ?_;intro w5 hm5 hg5;refine aqa ?_)
   have HL5:=Hq ((HL.out.below (below_drewN (Rf9.alloc Nr _) 1)).putk hm5 hg5)
   clear hm5 hg5
   refine aqb ?_
   go_wp2_with fail
   go_roundw
   case rel=>
    obtain⟨sk',h5⟩: ∃sk',Hid (LdS w w5 w1.heap.size w.heap.size (w.heap.size+1) (w.heap.size+1+1) (w.heap.size+1+1+1) 0 0 (j+1) 0 0 0 sk' 0 (fun _=>none) (fun _=>none) (iqj (bqg ((ts.take j).map TyV.name)) nm (.int .i64 1)) (fun _=>none) (.slice (some ⟨g,0,none⟩) 26 cap) ts):=⟨_,HL5⟩
    have e2:(ts.take (j+1)).map TyV.name=(ts.take j).map TyV.name++ [nm]:=HTK.out
    rw [dqY, ←e2] at h5
    exact⟨j+1,sk',by go_num,by omega,h5⟩
   case measure=>simp [RowKit.intOf];omega
  have hj26:j=26:=by omega
  subst hj26
  have htk:ts.take 26=ts:=List.take_of_length_le Om
  rw [htk] at HL
  go_wp2_with fail
  go_ret
  refine⟨w1.heap.size,rfl, ?_⟩
  first
   |exact⟨_,_,_,_,26,sk,_,ts,HK.out,HL.out,by omega,HL.out.ty.below⟩
   |exact⟨w.heap.size,w.heap.size+1,w.heap.size+1+1,w.heap.size+1+1+1,26,⟨sk,⟨.slice (some ⟨g,0,none⟩) 26 cap,⟨ts,⟨HK.out,HL.out,by omega,HL.out.ty.below⟩⟩⟩⟩⟩
   |trace_state
def cqP (P:Program) (fn:Func) (tmps:Array Value) (R:Ending→World→Prop):List Deferred→FrameMode→World→Prop
 | [], .returning,w=> ∃v,(results fn tmps).run P w= .ok v w∧R (.returned v) w
 | [], .panicking chain,w=>R (.panicked chain) w
 | [], .run,_=>False
 |d::ds,u,w=>u≠ .run∧ ∃b at' ty cs v w',d.target= .builtin b at' ty cs∧(invoke d.target d.args).run P w= .ok (.value v) w'∧cqP P fn tmps R ds u w'
section
variable {P:Program}
theorem iqF {fr:Frame} {cs:List Frame} {w w':World} {d:Deferred} {ds:List Deferred} {b:Builtin} {at':Array TypeId} {ty:TypeId} {cn:Array Bool} {v:Value}
  (hm:fr.mode≠ .run) (hd:fr.defers=d::ds) (ht:d.target= .builtin b at' ty cn) (hi:(invoke d.target d.args).run P w= .ok (.value v) w'):
  step P (lone fr cs w)= .next (lone { fr with defers:=ds } cs w'):=by
 obtain⟨t,a⟩:=d
 simp only at ht hi
 subst ht
 refine step_lone_go ?_
 cases hmode:fr.mode with
 |run=>exact absurd hmode hm
 |returning=>simp [stepG,unwind,callDeferred,hmode,hd,hi]
 |panicking chain=>simp [stepG,unwind,callDeferred,hmode,hd,hi]
theorem dqx {fn:Func} {tmps:Array Value} {R:Ending→World→Prop}: ∀(ds:List Deferred) (u:FrameMode) (w:World) (fr:Frame)
  (cs:List Frame),fr.mode=u→fr.defers=ds→fr.tmps=tmps→P.funcs[fr.fn]?=some fn→fr.kind= .normal→cqP P fn tmps R ds u w→
  ∃e w' fr',R e w'∧Comes P (lone fr cs w) (lone fr' cs w') e∧fr'.fn=fr.fn∧fr'.leaving P w' e:=by
 intro ds
 induction ds with
 |nil=>
  intro u w fr cs hu hd ht hf hk h
  cases u with
  |run=>exact h.elim
  |returning=>
   obtain⟨v,hr,hR⟩:=h
   exact⟨.returned v,w,fr,hR,Steps.refl P _,rfl,hu,hd,hk,fn,hf,ht▸hr⟩
  |panicking chain=>exact⟨.panicked chain,w,fr,h,Steps.refl P _,rfl,hu,hd,fn,hf⟩
 |cons d ds ih=>
  intro u w fr cs hu hd ht hf hk h
  obtain⟨hrun,b,at',ty,cn,v,w',htar,hinv,hrest⟩:=h
  have h1:=iqF (cs:=cs) (hu▸hrun) hd htar hinv
  obtain⟨e',w'',fr',hR',hs',hfn',hl'⟩:=ih u w' { fr with defers:=ds } cs hu rfl ht hf hk hrest
  exact⟨e',w'',fr',hR',Comes.of_steps (.one h1) hs',hfn',hl'⟩
def lql (P:Program) (fn:Func) (R:Ending→World→Prop):Exit→Act→World→Prop
 | .normal,a,w| .ret,a,w=>cqP P fn a.tmps R a.defers .returning w
 | .panic chain,a,w=>cqP P fn a.tmps R a.defers (.panicking chain) w
 | .outgrown,_,w=>R .outgrown w
 |_,_,_=>False
theorem bqT {f:FuncId} {fn:Func} {c:Code} {args:Array Value} {w:World} {R:Ending→World→Prop}
  (hf:P.funcs[f]?=some fn) (hb:fn.body=some c)
  (h:c.wp P (lql P fn R) { tmps:=args++Array.replicate (fn.ntmps - args.size) undef,defers:= [] } w):Calls P f args w R:=by
 intro cs
 let b:Frame:={ (default:Frame) with fn:=f,kind:= .normal }
 have henter:Frame.enter P f args .normal=
   b.at { tmps:=args++Array.replicate (fn.ntmps - args.size) undef,defers:= [] } [.code c]:=by
  simp [Frame.enter,Frame.at,hf,hb,b]
 obtain⟨e,a',w',hq,harr⟩:=h b [] cs
 rw [←henter] at harr
 cases e with
 |normal=>
  obtain⟨e',w'',fr',hR,hs,hfn,hl⟩:=dqx a'.defers .returning w' { b.at a' [] with mode:= .returning } cs rfl rfl rfl hf rfl hq
  exact⟨e',w'',fr',hR,Comes.of_steps (Steps.trans harr (.one step_end)) hs,hfn,hl⟩
 |ret=>
  obtain⟨todo,hs₀⟩:=harr
  obtain⟨e',w'',fr',hR,hs,hfn,hl⟩:=dqx a'.defers .returning w' { b.at a' todo with mode:= .returning } cs rfl rfl rfl hf rfl hq
  exact⟨e',w'',fr',hR,Comes.of_steps hs₀ hs,hfn,hl⟩
 |panic chain=>
  obtain⟨todo,hs₀⟩:=harr
  obtain⟨e',w'',fr',hR,hs,hfn,hl⟩:=dqx a'.defers (.panicking chain) w' { b.at a' todo with mode:= .panicking chain } cs rfl rfl rfl hf rfl hq
  exact⟨e',w'',fr',hR,Comes.of_steps hs₀ hs,hfn,hl⟩
 |exit id=>exact hq.elim
 |goto l=>exact hq.elim
 |outgrown=>exact⟨.outgrown,w',b,hq,harr.resolve_left (by simp [b]),rfl,trivial⟩
end
theorem cqa.del {P:Program} {w:World} {k e t:TypeId} {b n sz:Nat} {f:List UInt8→Option Value} (h:cqa w P k b n f sz) (hk:P.underlying k=some .string) (ht:P.underlying t=some (.map k e))
  {s:ByteArray} (hs:s.size≤maxLen) (ty:TypeId): ∃w',(Builtin.delete_ #[t,k] ty #[.map (some b), .string s]).run P w= .ok (.tuple #[]) w'∧cqa w' P k b n (oqI f s.data.toList) (if(f s.data.toList).isSome then sz - 1 else sz)∧w.grownBy w' (some b):=by
 obtain⟨D,hown,hsz,hat,hh⟩:=h
 have ht':=hown.tidy (string_keyed hk)
 obtain⟨w',hrun,h1,h2⟩:=hown.drop (string_keyed hk) ht (Go.WideMaps.keyOf_string_mk hk hs) ty
 refine⟨w',hrun,⟨_,h1, ?_, ?_, ?_⟩,h2.grown⟩
 ·have:=size_del (k:= .string s.data.toList) ht'
  rw [hh,hsz] at this
  split at this<;>simp_all<;>omega
 ·intro s' z
  unfold oqI
  by_cases hs':s'=s.data.toList
  ·subst hs'
   rw [atKey_del_same,if_pos rfl]
   rfl
  rw [atKey_del_other (gqk hs'),if_neg hs',hat]
 intro s'
 unfold oqI
 by_cases hs':s'=s.data.toList
 ·subst hs'
  rw [has_del_same,if_pos rfl]
  rfl
 rw [has_del_other (gqk hs'),if_neg hs',hh]
end Go.Proofs.YtdbniocnjhfhdaaGreatDoor
namespace Go.Proofs.YtdbniocnjhfhdaaGreatDoor
open Go Go.RowKit Lib
def cq9 (ns:List (List UInt8)) (s:List UInt8):Int:=
 match ns.findIdx? (fun x=>x==s) with
 |some i=>i
 |none=> -1
theorem gqW {ns:List (List UInt8)} {s:List UInt8} {k:Nat} (h:ns[k]?=some s) (hn: ∀j,j<k→ ∀x,ns[j]?=some x→x≠s):cq9 ns s=k:=by
 have hk:=(List.getElem?_eq_some_iff.1 h).1
 have he:=(List.getElem?_eq_some_iff.1 h).2
 have:ns.findIdx? (fun x=>x==s)=some k:=by
  rw [List.findIdx?_eq_some_iff_getElem]
  refine⟨hk,by simp [he],fun j hj=> ?_⟩
  have:=hn j hj _ (List.getElem?_eq_getElem Om)
  simpa using this
 unfold cq9
 rw [this]
theorem fqJ {ns:List (List UInt8)} {s:List UInt8} (hn: ∀(j:Nat) (x:List UInt8),ns[j]?=some x→x≠s):cq9 ns s= -1:=by
 have:ns.findIdx? (fun x=>x==s)=none:=by
  rw [List.findIdx?_eq_none_iff]
  intro x hx
  obtain⟨j,hj⟩:=List.mem_iff_getElem?.1 hx
  simpa using hn j x hj
 unfold cq9
 rw [this]
theorem jqw (g n cap:Nat) (ns:List (List UInt8)) (s:ByteArray) (w:World) (hl:ns.length=n) (hcap:n≤cap) (hm:n≤4611686018427387904) (hc: ∀j t,ns[j]?=some t→w.cell? ⟨g,j*6,none⟩=some (.string ⟨t.toArray⟩)):
  Calls Tryz.prog 70 #[.slice (some ⟨g,0,none⟩) n cap, .string s] w fun e w'=>e= .returned (.int .i64 (cq9 ns s.toList))∧w=w':=by
 have HC:=Hq hc
 have HL:=Hq hl
 clear hc hl
 go_enter Tryz.func70,Tryz.ntmps70
 go_wp2_with fail
 go_loop [5,8] (fun _ i=> ∃k:Nat,k≤n∧i= .int .i64 k∧Hid (∀j,j<k→ ∀x,ns[j]?=some x→x≠s.toList)) (fun _ i=>n - (RowKit.intOf i).toNat)
 case atStart=>exact⟨0,by omega,rfl,fun j hj=>absurd hj Om⟩
 case round=>
  obtain⟨k,hk,rfl,HN⟩:=hrel
  by_cases hlt:k<n
  ·obtain⟨t,ht⟩: ∃t,ns[k]?=some t:=⟨_,List.getElem?_eq_getElem (by rw [HL.out];exact hlt)⟩
   have c0:=HC.out k t ht
   have HT:=Hq ht
   clear ht
   by_cases he:t=s.toList
   ·have HR:=Hq (gqW (he▸HT.out) HN.out)
    have hb0:(t==s.toList)=true:=by simp [he]
    clear he
    go_wp2
    go_ret
    exact⟨by rw [HR.out];rfl,rfl⟩
   have hb0:(t==s.toList)=false:=by simp [he]
   have HE:=Hq he
   clear he
   go_wp2
   go_round
   case rel=>exact⟨k+1,by omega,by go_num,fun j hj x hx=>by
    rcases Nat.lt_or_ge j k with h|h
    ·exact HN.out j h x hx
    obtain rfl:j=k:=by omega
    rw [HT.out] at hx
    injection hx with hx
    subst hx
    exact HE.out⟩
   case measure=>simp [RowKit.intOf];omega
  have hmiss:=fqJ (ns:=ns) (s:=s.toList) (fun j x hx=>HN.out j (by have:=(List.getElem?_eq_some_iff.1 hx).1;have:=HL.out;omega) x hx)
  have HMI:=Hq hmiss
  clear hmiss
  go_wp2
  go_ret
  exact⟨by rw [HMI.out];rfl,rfl⟩
theorem fqK {ns:List (List UInt8)} {s:List UInt8} {k:Nat} (h:cq9 ns s=k):k<ns.length:=by
 unfold cq9 at h
 split at h
 ·rename_i i hi
  rw [List.findIdx?_eq_some_iff_getElem] at hi
  obtain⟨hlt,_⟩:=hi
  omega
 omega
theorem lqm (g n cap:Nat) (ns:List (List UInt8)) (frm s:ByteArray) (w:World) (hl:ns.length=n) (hcap:n≤cap) (hm:n≤4611686018427387904) (hc: ∀j t,ns[j]?=some t→w.cell? ⟨g,j*6,none⟩=some (.string ⟨t.toArray⟩)) (ha:cq9 ns s.toList<0):
  Calls Tryz.prog 69 #[.slice (some ⟨g,0,none⟩) n cap, .string frm, .string s] w fun e w'=>e= .returned (.bool false)∧w=w':=by
 obtain⟨z,hz⟩: ∃z,cq9 ns s.toList=z:=⟨_,rfl⟩
 have HA:=jqw g n cap ns s w hl hcap hm hc
 rw [hz] at HA ha
 have HA':=Hq HA
 clear HA hz hc hl
 go_enter Tryz.func69,Tryz.ntmps69
 go_wp2_with (go_at_call 70;refine HA'.out.mono ?_;rintro e w1 ⟨rfl,rfl⟩)
 go_ret
 exact⟨rfl,rfl⟩
theorem mqY (g n cap:Nat) (ns:List (List UInt8)) (frm s:ByteArray) (w:World) (hl:ns.length=n) (hcap:n≤cap) (hm:n≤4611686018427387904) (hc: ∀j t,ns[j]?=some t→w.cell? ⟨g,j*6,none⟩=some (.string ⟨t.toArray⟩)) (k:Nat) (ha:cq9 ns s.toList=k)
  (acc:Int) (h2:w.cell? ⟨g,k*6+2,none⟩=some (.int .i64 acc)) (hp:bits .and .i64 acc 1=1):
  Calls Tryz.prog 69 #[.slice (some ⟨g,0,none⟩) n cap, .string frm, .string s] w fun e w'=>e= .returned (.bool true)∧w=w':=by
 have hk:=fqK ha
 rw [hl] at hk
 have HA:=jqw g n cap ns s w hl hcap hm hc
 rw [ha] at HA
 have HA':=Hq HA
 clear HA ha hc hl
 go_enter Tryz.func69,Tryz.ntmps69
 go_wp2_with (go_at_call 70;refine HA'.out.mono ?_;rintro e w1 ⟨rfl,rfl⟩)
 go_ret
 exact⟨rfl,rfl⟩
theorem lqn (g n cap:Nat) (ns:List (List UInt8)) (frm s:ByteArray) (w:World) (hl:ns.length=n) (hcap:n≤cap) (hm:n≤4611686018427387904) (hc: ∀j t,ns[j]?=some t→w.cell? ⟨g,j*6,none⟩=some (.string ⟨t.toArray⟩)) (k:Nat) (ha:cq9 ns s.toList=k)
  (acc:Int) (h2:w.cell? ⟨g,k*6+2,none⟩=some (.int .i64 acc)) (hp:bits .and .i64 acc 1=0) (hf:frm.size≤1048576) (hs:s.size≤1048576):
  Calls Tryz.prog 69 #[.slice (some ⟨g,0,none⟩) n cap, .string frm, .string s] w fun e w'=>e= .returned (.bool ((bqC frm).toList==(bqC s).toList))∧w=w':=by
 have hk:=fqK ha
 rw [hl] at hk
 have HA:=jqw g n cap ns s w hl hcap hm hc
 rw [ha] at HA
 have HA':=Hq HA
 clear HA ha hc hl
 go_enter Tryz.func69,Tryz.ntmps69
 go_wp2_with (first| (go_at_call 70;refine HA'.out.mono ?_;rintro e w1 ⟨rfl,rfl⟩) | (go_at_call 100;refine(iqC _ _ (by assumption)).mono ?_;rintro e w1 ⟨rfl,rfl⟩))
 go_ret
 exact⟨rfl,rfl⟩
end Go.Proofs.YtdbniocnjhfhdaaGreatDoor
namespace Go.Proofs.YtdbniocnjhfhdaaGreatDoor
open Go Go.RowKit Lib Go.Maps
structure LT where
 ts:List TyK
 files:List UInt8→Option aqc
def LT.names (σ:LT):List (List UInt8):=σ.ts.map (·.1)
def cqO.key (t:cqO):TyK:=(t.name.data.toList,t.sup.data.toList,t.acc,t.ifs.map (·.data.toList),t.flds,t.mths)
def iqG (ts:List TyK) (s:ByteArray):Int:=((ts[(cq9 (ts.map (·.1)) s.toList).toNat]?).map (·.2.2.1)).getD 0
def eqX (ts:List TyK) (frm to:ByteArray):Bool:=if cq9 (ts.map (·.1)) to.toList<0 then false else if bits .and .i64 (iqG ts to) 1=1 then true else(bqC frm).toList==(bqC to).toList
def iqH (ts:List TyK) (to:ByteArray):Bool:=bits .and .i64 (iqG ts to) 512 !=0
def bqd (ld:LT→ByteArray→Option ByteArray×LT) (σ:LT) (frm to:ByteArray) (face:Bool):Option ByteArray×LT:=
 match ld σ to with
 | (some e,σ1)=> (some e,σ1)
 | (none,σ1)=>if eqX σ1.ts frm to=false then(some kqc,σ1) else if iqH σ1.ts to≠face then(some hqw,σ1) else(none,σ1)
def bq1 (ld:LT→ByteArray→Option ByteArray×LT) (frm:ByteArray):List ByteArray→LT→Option ByteArray×LT
 | [],σ=> (none,σ)
 |t::r,σ=>match bqd ld σ frm t true with
  | (some e,σ1)=> (some e,σ1)
  | (none,σ1)=>bq1 ld frm r σ1
def eqY (s:ByteArray) (c:aqc) (t:cqO) (σ:LT):LT:=⟨σ.ts++ [t.key],fun x=>if x=s.data.toList then some c else σ.files x⟩
def aqM (rd:ByteArray→Except ByteArray (aqc×cqO)):Nat→List (List UInt8)→LT→ByteArray→Option ByteArray×LT
 |0,_,σ,_=> (none,σ)
 |n+1,going,σ,s=>if s.data.toList∈σ.names then(none,σ) else if s.data.toList∈going then(some mqX,σ) else
  match rd s with
  | .error e=> (some e,σ)
  | .ok (c,t)=>match bqd (aqM rd n (going++ [s.data.toList])) σ s t.sup false with
   | (some e,σ1)=> (some e,σ1)
   | (none,σ1)=>match bq1 (aqM rd n (going++ [s.data.toList])) s t.ifs σ1 with
    | (some e,σ2)=> (some e,σ2)
    | (none,σ2)=> (none,eqY s c t σ2)
inductive gqp:Value→ByteArray→Prop where
 |base (s:ByteArray):gqp (lqi (dqv s)) s
 |wrap (v:Value) (f s:ByteArray):gqp v s→gqp (.iface 150 (.agg #[.string f,v])) s
def ErrIs:Option ByteArray→Value→Prop
 |none,x=>x= .nilIface
 |some e,x=>gqp x e
structure bqp where
 lb:Nat
 bd:Nat
 bf:Nat
 bk:Nat
 bg:Nat
 ex:List Nat
def bqp.ro (L:bqp) (v:Value) (g:Nat):Prop:=g≠L.lb∧g≠L.bd∧g≠L.bf∧g≠L.bk∧g≠L.bg∧v.ownBlock≠some g∧g∉L.ex
def gqf (W:World) (ok:Nat→Prop):Option (List UInt8)→Option Value→Prop
 |none,x=>x=none
 |some l,x=> ∃A cap,x=some (.slice A l.length cap)∧RdB W A l.length cap l∧(∀a,A=some a→a.block<W.heap.size∧ok a.block)∧l.length≤65536
def gqq (W:World) (ok:Nat→Prop):Option aqc→Option Value→Prop
 |none,x=>x=none
 |some c,x=> ∃p i f m,x=some (.agg (c.cells p i f m).toArray)∧aqy W ok c p i f m
theorem bqF {W W':World} {ok ok':Nat→Prop} {size n:Nat} {cs:List Value} {v:Value} (h:bqm W ok size n cs v) (hk:aqC ok W W') (ho: ∀g,g<W.heap.size→ok g→ok' g):bqm W' ok' size n cs v:=
 ((h.mono (ok':=fun g=>ok g∧ok' g) (fun g hg hk=> ⟨hk,ho g hg hk⟩)).keep (hk.mono fun g hg=>hg.1)).mono fun g _ hg=>hg.2
def iqI (W:World) (ok:Nat→Prop) (t:TyV):Prop:=bqm W ok 1 t.ifl.length t.ifCells t.ifs∧bqm W ok 5 t.fl.length t.fCells t.flds∧bqm W ok 5 t.ml.length t.mCells t.mths
theorem gqf.keep {W W':World} {ok ok':Nat→Prop} {o:Option (List UInt8)} {x:Option Value} (h:gqf W ok o x) (hk:aqC ok W W') (ho: ∀g,g<W.heap.size→ok g→ok' g):gqf W' ok' o x:=by
 cases o with
 |none=>exact h
 |some l=>
  obtain⟨A,cap,h1,h2,h3,h4⟩:=h
  refine⟨A,cap,h1,⟨h2.hlen,h2.hle,h2.hmax,fun h0=> ?_⟩,fun a ha=> ⟨Nat.lt_of_lt_of_le (h3 a ha).1 hk.size,ho _ (h3 a ha).1 (h3 a ha).2⟩,h4⟩
  obtain⟨b,off,e,hlt,hc⟩:=h2.hat h0
  exact⟨b,off,e,Nat.lt_of_lt_of_le hlt hk.size,fun i hi=> (hk.cell b hlt (h3 _ e).2 _).trans (hc i hi)⟩
theorem gqq.keep {W W':World} {ok ok':Nat→Prop} {o:Option aqc} {x:Option Value} (h:gqq W ok o x) (hk:aqC ok W W') (ho: ∀g,g<W.heap.size→ok g→ok' g):gqq W' ok' o x:=by
 cases o with
 |none=>exact h
 |some c=>
  obtain⟨p,i,f,m,h1,h2⟩:=h
  exact⟨p,i,f,m,h1,(h2.mono (ok':=fun g=>ok g∧ok' g) (fun g hg hk=> ⟨hk,ho g hg hk⟩)).keep (hk.mono fun g hg=>hg.1) |>.mono fun g _ hg=>hg.2⟩
theorem iqI.keep {W W':World} {ok ok':Nat→Prop} {t:TyV} (h:iqI W ok t) (hk:aqC ok W W') (ho: ∀g,g<W.heap.size→ok g→ok' g):iqI W' ok' t:=⟨bqF h.1 hk ho,bqF h.2.1 hk ho,bqF h.2.2 hk ho⟩
structure LdG (B:Nat) (L:bqp) (nd:Nat) (defs:List UInt8→Option (List UInt8)) (files:List UInt8→Option aqc) (ks going:List (List UInt8)) (ts:List TyV) (v:Value) (W:World):Prop where
 c0:W.cell? ⟨L.lb,0,none⟩=some (.map (some L.bd))
 c1:W.cell? ⟨L.lb,1,none⟩=some (.map (some L.bf))
 c2:W.cell? ⟨L.lb,2,none⟩=some (.map (some L.bk))
 c3:W.cell? ⟨L.lb,3,none⟩=some (.map (some L.bg))
 c4:W.cell? ⟨L.lb,4,none⟩=some v
 fz: ∀o,W.frozen? ⟨L.lb,o,none⟩=false
 hd: ∃fd,cqa W Tryz.prog 9 L.bd nd fd nd∧ ∀s,gqf W (L.ro v) (defs s) (fd s)
 hf: ∃ff n,n≤ks.length∧cqa W Tryz.prog 9 L.bf n ff n∧ ∀s,gqq W (L.ro v) (files s) (ff s)
 hk: ∃n,n≤ks.length∧cqa W Tryz.prog 9 L.bk n (bqg ks) n
 hg: ∃n,n≤going.length∧cqa W Tryz.prog 9 L.bg n (bqg going) n
 ty:W.ownsRow B 39 6 v ts.length (bqE ts)
 rd: ∀t∈ts,iqI W (L.ro v) t
 ord:B≤L.bd∧L.bd<L.bf∧L.bf<L.bk∧L.bk<L.bg∧L.bg<L.lb
 new: ∀g,v.ownBlock=some g→g≠L.lb∧g≠L.bd∧g≠L.bf∧g≠L.bk∧g≠L.bg
 lt:L.lb<W.heap.size
 exl: ∀x∈L.ex,x<W.heap.size
 newx: ∀g,v.ownBlock=some g→g∉L.ex
 nex: ∀x∈L.ex,x≠L.lb∧x≠L.bd∧x≠L.bf∧x≠L.bk∧x≠L.bg
theorem cqa.tight {w:World} {P:Program} {k:TypeId} {b n sz:Nat} {f:List UInt8→Option Value} (h:cqa w P k b n f sz):cqa w P k b sz f sz:=by
 obtain⟨D,⟨es,clock,hb,F,hs,hD⟩,hsz,r⟩:=h
 refine⟨D,⟨es,clock,hb,F, ?_,hD⟩,hsz,r⟩
 subst hD
 rw [←hsz]
 simp [Maps.size,length_sorted]
section
variable {B:Nat} {L:bqp} {nd:Nat} {defs:List UInt8→Option (List UInt8)} {files:List UInt8→Option aqc} {ks going:List (List UInt8)} {ts:List TyV} {v:Value} {W W':World}
theorem LdG.but (h:LdG B L nd defs files ks going ts v W) (S:List Nat) (hb:But W.heap.size S W W') (hS: ∀g∈S,g≠L.lb∧g≠L.bd∧g≠L.bf∧g≠L.bk∧ ¬L.ro v g∧v.ownBlock≠some g) {going':List (List UInt8)} (hg: ∃n,n≤going'.length∧cqa W' Tryz.prog 9 L.bg n (bqg going') n):
  LdG B L nd defs files ks going' ts v W':=by
 have ho:=h.ord
 have hlt:=h.lt
 have hc: ∀o,W'.cell? ⟨L.lb,o,none⟩=W.cell? ⟨L.lb,o,none⟩:=fun o=>hb.cell (p:=⟨L.lb,o,none⟩) h.lt (fun hm=> (hS _ hm).1 rfl)
 have hkp:aqC (L.ro v) W W':=aqC.of_but hb fun g hg hm=> (hS g hm).2.2.2.2.1 hg
 obtain⟨fd,d1,d2⟩:=h.hd
 obtain⟨ff,n1,f0,f1,f2⟩:=h.hf
 obtain⟨n2,k0,k1⟩:=h.hk
 exact⟨(hc 0).trans h.c0,(hc 1).trans h.c1,(hc 2).trans h.c2,(hc 3).trans h.c3,(hc 4).trans h.c4,fun o=> (hb.frozen (p:=⟨L.lb,o,none⟩) h.lt (fun hm=> (hS _ hm).1 rfl)).trans (h.fz o),
  ⟨fd,d1.but hb d1.lt (fun hm=> (hS _ hm).2.1 rfl),fun s=> (d2 s).keep hkp fun g _ hg=>hg⟩,⟨ff,n1,f0,f1.but hb f1.lt (fun hm=> (hS _ hm).2.2.1 rfl),fun s=> (f2 s).keep hkp fun g _ hg=>hg⟩,
  ⟨n2,k0,k1.but hb k1.lt (fun hm=> (hS _ hm).2.2.2.1 rfl)⟩,hg,aqj h.ty fun q hq=>hb.block q (h.ty.lt q hq).2 (fun hm=> (hS q hm).2.2.2.2.2 hq),fun t ht=> (h.rd t ht).keep hkp fun g _ hg=>hg,h.ord,h.new,Nat.lt_of_lt_of_le h.lt hb.size,(fun x hx=>Nat.lt_of_lt_of_le (h.exl x hx) hb.size),h.newx,h.nex⟩
theorem LdG.below (h:LdG B L nd defs files ks going ts v W) (hb:Below W.heap.size W W'):LdG B L nd defs files ks going ts v W':=by
 obtain⟨n,h1,h2⟩:=h.hg
 exact h.but [] (But.of_below hb) Sp ⟨n,h1,h2.keep (hb.block _ h2.lt)⟩
theorem eqI {w w':World} {b:Nat} (h:w.grownBy w' (some b)):But w.heap.size [b] w w':=(But.refl _ _ _).grown h Nr fun k hk=> .inl (by injection hk with hk;simp [hk])
theorem LdG.goes (h:LdG B L nd defs files ks going ts v W) {going':List (List UInt8)} {n m:Nat} {f:List UInt8→Option Value} (hf:f=bqg going') (hM:cqa W' Tryz.prog 9 L.bg n f m) (hm:m≤going'.length) (hg:W.grownBy W' (some L.bg)):LdG B L nd defs files ks going' ts v W':=by
 have ho:=h.ord
 refine h.but [L.bg] (eqI hg) (fun g hm=> ?_) ⟨m,hm,hf▸hM.tight⟩
 obtain rfl:g=L.bg:=by simpa using hm
 exact⟨by omega,by omega,by omega,by omega,fun hr=>hr.2.2.2.2.1 rfl,fun e=> (h.new _ e).2.2.2.2 rfl⟩
theorem LdG.putk (h:LdG B L nd defs files ks going ts v W) {ks':List (List UInt8)} {n m:Nat} {f:List UInt8→Option Value} (hf:f=bqg ks') (hl:ks.length≤ks'.length) (hM:cqa W' Tryz.prog 9 L.bk n f m) (hm:m≤ks'.length) (hg:W.grownBy W' (some L.bk)):LdG B L nd defs files ks' going ts v W':=by
 have ho:=h.ord
 have hlt:=h.lt
 have hb:=eqI hg
 have hS: ∀q,q∈ [L.bk]→q=L.bk:=fun q hq=>by simpa using hq
 have hc: ∀o,W'.cell? ⟨L.lb,o,none⟩=W.cell? ⟨L.lb,o,none⟩:=fun o=>hb.cell (p:=⟨L.lb,o,none⟩) h.lt (fun hm=>by have:=hS _ hm;simp at this;omega)
 have hkp:aqC (L.ro v) W W':=aqC.of_but hb fun g hg hm=>hg.2.2.2.1 (hS g hm)
 obtain⟨fd,d1,d2⟩:=h.hd
 obtain⟨ff,n1,f0,f1,f2⟩:=h.hf
 obtain⟨n3,g0,g1⟩:=h.hg
 exact⟨(hc 0).trans h.c0,(hc 1).trans h.c1,(hc 2).trans h.c2,(hc 3).trans h.c3,(hc 4).trans h.c4,fun o=> (hb.frozen (p:=⟨L.lb,o,none⟩) h.lt (fun hm=>by have:=hS _ hm;simp at this;omega)).trans (h.fz o),
  ⟨fd,d1.but hb d1.lt (fun hm=>by have:=hS _ hm;omega),fun s=> (d2 s).keep hkp fun g _ hg=>hg⟩,⟨ff,n1,Nat.le_trans f0 hl,f1.but hb f1.lt (fun hm=>by have:=hS _ hm;omega),fun s=> (f2 s).keep hkp fun g _ hg=>hg⟩,
  ⟨m,hm,hf▸hM.tight⟩,⟨n3,g0,g1.but hb g1.lt (fun hm=>by have:=hS _ hm;omega)⟩,aqj h.ty fun q hq=>hb.block q (h.ty.lt q hq).2 (fun hm=> (h.new q hq).2.2.2.1 (hS q hm)),fun t ht=> (h.rd t ht).keep hkp fun g _ hg=>hg,h.ord,h.new,Nat.lt_of_lt_of_le h.lt hb.size,(fun x hx=>Nat.lt_of_lt_of_le (h.exl x hx) hb.size),h.newx,h.nex⟩
end
end Go.Proofs.YtdbniocnjhfhdaaGreatDoor
