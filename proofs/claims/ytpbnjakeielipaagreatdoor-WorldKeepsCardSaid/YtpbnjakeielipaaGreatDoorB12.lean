/-
  What the laws rest on, part 12: walks of the program's functions and plain laws. Conditions: none but those that each theorem names.
-/
import Derived.Test.YtpbnjakeielipaaGreatDoorB08
import Derived.Test.YtpbnjakeielipaaGreatDoorB06
import Derived.Test.YtpbnjakeielipaaGreatDoorB00
import Derived.Defers
import Derived.Maps.OwnSet
import Derived.Test.YtpbnjakeielipaaGreatDoorB10
import Derived.Test.YtpbnjakeielipaaGreatDoorB11
set_option linter.unusedSimpArgs false
set_option linter.unusedVariables false
set_option maxRecDepth 100000
set_option maxHeartbeats 1000000
namespace Go.Proofs.YtpbnjakeielipaaGreatDoor
open Go Go.RowKit Lib
def coreV (k:Nat) (m:Value):TyV:=⟨langL++(coreAt k).1,inLang (coreAt k).2,33, .slice none 0 0, .slice none 0 0,m, [], [],initM⟩
def taskM:List MemV:= [⟨1025,⟨#[114,117,110]⟩,⟨#[40,41,86]⟩,false,0⟩]
def sysM:List MemV:= [⟨265,⟨#[112,114,105,110,116]⟩,⟨#[40,73,41,86]⟩,false,0⟩,⟨265,⟨#[115,116,97,114,116]⟩,⟨#[40,76,118,109,47,84,97,115,107,59,41,86]⟩,false,0⟩]
def coreKeys:List TyK:=(List.range 24).map coreKey++ [([118,109,47,84,97,115,107],langL++ [79,98,106,101,99,116],1537, [], [],taskM),([118,109,47,83,121,115],langL++ [79,98,106,101,99,116],49, [], [],sysM)]
theorem types_any (w:World):Calls Tryz.prog 38 #[] w fun e w'=> ∃g cap ts,e= .returned (.slice (some ⟨g,0,none⟩) 26 cap)∧ts.map TyV.key=coreKeys∧TyRow w w' (.slice (some ⟨g,0,none⟩) 26 cap) ts:=by
 go_enter Tryz.func38,Tryz.ntmps38
 go_wp2_with (go_at_call 69;refine(coreall_any _).mono ?_;rintro e w1 ⟨rfl,hb1⟩;have HB1:=Lib.hid hb1;clear hb1)
 have hz1:=HB1.out.size
 go_loopw [2,6] (fun v i wr=> ∃(k:Nat) (ts:List TyV),i= .int .i64 k∧k≤24∧ts.length=k∧Hid (ts.map TyV.key=(List.range k).map coreKey)∧Hid (TyRow w wr v ts)) (fun _ i _=>24 - (RowKit.intOf i).toNat)
 case atStart=>exact⟨0, [],rfl,by omega,rfl,by first|exact rfl|exact Lib.hid rfl,by first|exact⟨World.ownsRow_nil _ _ _ _,fun g h t ht=>by simp at ht,HB1.out⟩ |exact Lib.hid ⟨World.ownsRow_nil _ _ _ _,fun g h t ht=>by simp at ht,HB1.out⟩⟩
 case round=>
  obtain⟨k,ts,rfl,hk,hl,HK,HT⟩:=hrel
  have hzr:=HT.out.below.size
  by_cases hlt:k<24
  ·have hix:=fun W=>core_index W k hlt
   obtain⟨hn1,hn2⟩:=core_short k hlt
   have HM:=Lib.hid fun W=>made_any (coreAt k).1 (coreAt k).2 hn1 hn2 W
   clear hn1 hn2
   go_wp2_with (go_at_call 68;refine(HM.out _).mono ?_;rintro e w2 ⟨⟨gm,rfl,hgm1,hgm2,hgm3⟩,hb2⟩;refine stop_here ?_)
   have HT2:=Lib.hid ((HT.out.keep ((Below.refl _ _).alloc (Nat.le_refl _) _)).keep hb2)
   have hz2:=HT2.out.below.size
   have hgr:wr.heap.size<gm:=by simp at hgm1;omega
   clear hb2
   refine go_on ?_
   go_wp2_with (at_builtin;refine wpl_lies rfl _ _ 60 rfl Tryz.underlying60 info_type rfl (by omega) w.heap.size rfl ((HT2.out.own_at hl).alloc _) rfl rfl (fun _=> ⟨_,rfl,cells_new_at _ _ _ _ (by simp)⟩) (by simp [Value.oneCell']) (by omega) (by simp only [maxLen];omega) (by omega) (by simp;omega) ?_;intro g3 k3 w3 ho3 hg3 hb3 hgg3 hlt3;refine stop_here ?_)
   have HT3:=Lib.hid ((HT2.out.keep ((Below.refl _ _).alloc (Nat.le_refl _) _)).snoc_at hl (t:=coreV k (.slice (some ⟨gm,0,none⟩) 1 1)) ho3 hg3 hgg3 hb3 (fun g hg=>by
    refine⟨rdC_nil _ _ _,rdC_nil _ _ _,⟨_,1,1,rfl,Nat.le_refl _,by omega,rfl,fun _=> ⟨gm,0,rfl,by simp;omega, ?_,fun j u hu=> ?_⟩⟩⟩
    ·rcases hg with hg| ⟨_,hg⟩ |hg
     ·have:=(HT.out.own.lt _ hg).2
      omega
     ·rw [hg]
      simp
      omega
     ·omega
    ·have hu2:([.int .i64 1, .string ⟨#[60,105,110,105,116,62]⟩, .string ⟨#[40,41,86]⟩, .bool true, .int .i64 0]:List Value)[j]?=some u:=hu
     rw [World.cell?_alloc_lt _ _ _ hgm2,Nat.zero_add,cell_of_row w2 gm j _ _ _ hgm3]
     simpa using hu2))
   clear ho3 hg3 hb3 hgg3
   refine go_on ?_
   go_wp2_with fail
   go_roundw
   case rel=>
    refine⟨k+1,ts++ [coreV k (.slice (some ⟨gm,0,none⟩) 1 1)],by go_num,by omega,by simp [hl],Lib.hid ?_,HT3⟩
    rw [List.map_append,HK.out,List.range_succ,List.map_append]
    rfl
   case measure=>simp [RowKit.intOf];omega
  ·have hk24:k=24:=by omega
   subst hk24
   go_wp2_with (at_builtin;refine wpl_lies rfl _ _ 60 rfl Tryz.underlying60 info_type rfl (by omega) w.heap.size rfl (((HT.out.own_at hl).alloc _).alloc _) rfl rfl (fun _=> ⟨_,rfl,cells_new_at _ _ _ _ (by simp)⟩) (by simp [Value.oneCell']) (by omega) (by simp only [maxLen];omega) (by omega) (by simp;omega) ?_;intro g3 k3 w3 ho3 hg3 hb3 hgg3 hlt3;refine stop_here ?_)
   have HT3:=Lib.hid (((HT.out.keep ((Below.refl _ _).alloc (Nat.le_refl _) _)).keep ((Below.refl _ _).alloc (Nat.le_refl _) _)).snoc_at hl (t:=⟨[118,109,47,84,97,115,107],langL++ [79,98,106,101,99,116],1537, .slice none 0 0, .slice none 0 0, .slice (some ⟨wr.heap.size,0,none⟩) 1 1, [], [],taskM⟩) ho3 hg3 hgg3 hb3 (fun g hg=>by
    refine⟨rdC_nil _ _ _,rdC_nil _ _ _,⟨_,1,1,rfl,Nat.le_refl _,by omega,rfl,fun _=> ⟨wr.heap.size,0,rfl,by simp;omega, ?_,fun j u hu=> ?_⟩⟩⟩
    ·rcases hg with hg| ⟨_,hg⟩ |hg
     ·have:=(HT.out.own.lt _ hg).2
      omega
     ·rw [hg]
      simp
      omega
     ·omega
    ·have hu2:([.int .i64 1025, .string ⟨#[114,117,110]⟩, .string ⟨#[40,41,86]⟩, .bool false, .int .i64 0]:List Value)[j]?=some u:=hu
     rw [World.cell?_alloc_lt _ _ _ (by simp),Nat.zero_add,cell_of_row _ wr.heap.size j _ _ _ (heap_alloc_new _ _)]
     simpa using hu2))
   have hl3:(ts++ [(⟨[118,109,47,84,97,115,107],langL++ [79,98,106,101,99,116],1537, .slice none 0 0, .slice none 0 0, .slice (some ⟨wr.heap.size,0,none⟩) 1 1, [], [],taskM⟩:TyV)]).length=25:=by simp [hl]
   have hz3:=HT3.out.below.size
   have hz3r:=hg3.size
   simp only [World.size_alloc] at hz3r
   clear ho3 hg3 hb3 hgg3
   refine go_on ?_
   go_wp2_with (at_builtin;refine wpl_lies rfl _ _ 60 rfl Tryz.underlying60 info_type rfl (by omega) w.heap.size rfl (((HT3.out.own_at hl3).alloc _).alloc _) rfl rfl (fun _=> ⟨_,rfl,cells_new_at _ _ _ _ (by simp)⟩) (by simp [Value.oneCell']) (by omega) (by simp [maxLen]) (by omega) (by simp;omega) ?_;intro g4 k4 w4 ho4 hg4 hb4 hgg4 hlt4;refine stop_here ?_)
   have HT4:=Lib.hid (((HT3.out.keep ((Below.refl _ _).alloc (Nat.le_refl _) _)).keep ((Below.refl _ _).alloc (Nat.le_refl _) _)).snoc_at hl3 (t:=⟨[118,109,47,83,121,115],langL++ [79,98,106,101,99,116],49, .slice none 0 0, .slice none 0 0, .slice (some ⟨w3.heap.size,0,none⟩) 2 2, [], [],sysM⟩) ho4 hg4 hgg4 hb4 (fun g hg=>by
    refine⟨rdC_nil _ _ _,rdC_nil _ _ _,⟨_,2,2,rfl,Nat.le_refl _,by omega,rfl,fun _=> ⟨w3.heap.size,0,rfl,by simp;omega, ?_,fun j u hu=> ?_⟩⟩⟩
    ·rcases hg with hg| ⟨hg,_⟩ |hg
     ·have:=(HT3.out.own.lt _ hg).2
      omega
     ·simp [Value.ownBlock] at hg
     ·omega
    ·have hu2:([.int .i64 265, .string ⟨#[112,114,105,110,116]⟩, .string ⟨#[40,73,41,86]⟩, .bool false, .int .i64 0, .int .i64 265, .string ⟨#[115,116,97,114,116]⟩, .string ⟨#[40,76,118,109,47,84,97,115,107,59,41,86]⟩, .bool false, .int .i64 0]:List Value)[j]?=some u:=hu
     rw [World.cell?_alloc_lt _ _ _ (by simp),Nat.zero_add,cell_of_row _ w3.heap.size j _ _ _ (heap_alloc_new _ _)]
     simpa using hu2))
   clear ho4 hg4 hb4 hgg4
   refine go_on ?_
   go_wp2_with fail
   go_ret
   refine⟨g4,k4,_,rfl, ?_,HT4.out⟩
   rw [List.map_append,List.map_append,HK.out]
   rfl
end Go.Proofs.YtpbnjakeielipaaGreatDoor
namespace Go.Proofs.YtpbnjakeielipaaGreatDoor
open Go Go.RowKit Lib Go.Maps
structure LdS (w W:World) (lb bd bf bk bg:Nat) (nd nf nk ng:Nat) (sd sf sk sg:Nat) (fd ff fk fg:List UInt8→Option Value) (v:Value) (ts:List TyV):Prop where
 c0:W.cell? ⟨lb,0,none⟩=some (.map (some bd))
 c1:W.cell? ⟨lb,1,none⟩=some (.map (some bf))
 c2:W.cell? ⟨lb,2,none⟩=some (.map (some bk))
 c3:W.cell? ⟨lb,3,none⟩=some (.map (some bg))
 c4:W.cell? ⟨lb,4,none⟩=some v
 fz: ∀o,W.frozen? ⟨lb,o,none⟩=false
 hd:MapS W Tryz.prog 9 bd nd fd sd
 hf:MapS W Tryz.prog 9 bf nf ff sf
 hk:MapS W Tryz.prog 9 bk nk fk sk
 hg:MapS W Tryz.prog 9 bg ng fg sg
 ty:TyRow w W v ts
 ord:w.heap.size≤bd∧bd<bf∧bf<bk∧bk<bg∧bg<lb
 new: ∀g,v.ownBlock=some g→bg<g∧g≠lb
 lt:lb<W.heap.size
 rlb: ∀t∈ts,t.reads W lb
def inNames (ks:List (List UInt8)) (s:List UInt8):Option Value:=if s∈ks then some (.int .i64 1) else none
theorem inNames_snoc (ks:List (List UInt8)) (k:List UInt8):putF (inNames ks) k (.int .i64 1)=inNames (ks++ [k]):=by
 funext s
 unfold putF inNames
 by_cases h:s=k
 ·simp [h]
 ·simp [h]
theorem tyCells_at: ∀(ts:List TyV) (j:Nat) (t:TyV),ts[j]?=some t→ ∀q,q<6→(tyCells ts)[j*6+q]?=t.cells[q]?
 | [],j,t,h,q,hq=>by simp at h
 |y::ts,0,t,h,q,hq=>by
  simp at h
  subst h
  show(y.cells++tyCells ts)[0*6+q]?=_
  rw [List.getElem?_append_left (by simp [TyV.cells];omega)]
  congr 1
  omega
 |y::ts,j+1,t,h,q,hq=>by
  show(y.cells++tyCells ts)[(j+1)*6+q]?=_
  rw [List.getElem?_append_right (by simp [TyV.cells];omega),show(j+1)*6+q - y.cells.length=j*6+q by simp [TyV.cells];omega]
  exact tyCells_at ts j t (by simpa using h) q hq
theorem RdC.turned {w w':World} {P:Program} {k:TypeId} {b n sz g size:Nat} {f:List UInt8→Option Value} {v:Value} {cs:List Value} (hs:0<size) (h:RdC w g size v cs) (hM:MapS w P k b n f sz) (hg:w.grownBy w' (some b)):RdC w' g size v cs:=by
 obtain⟨A,m,cap,rfl,h1,h2,hl,h3⟩:=h
 refine⟨A,m,cap,rfl,h1,h2,hl,fun h0=> ?_⟩
 obtain⟨b',off,e,hlt,hne,hc⟩:=h3 h0
 have hb:b'≠b:=fun e=>by
  subst e
  have hp:0<cs.length:=by rw [hl];exact Nat.mul_pos h0 hs
  have h4:=hc 0 _ (List.getElem?_eq_getElem hp)
  rw [hM.no_cell] at h4
  cases h4
 refine⟨b',off,e,Nat.lt_of_lt_of_le hlt hg.size,hne,fun j u hu=> ?_⟩
 rw [World.cell?_of_block (w:=w) (hg.block b' hlt (fun e=>hb (by injection e)))]
 exact hc j u hu
theorem TyV.reads.turned {w w':World} {P:Program} {k:TypeId} {b n sz g:Nat} {f:List UInt8→Option Value} {t:TyV} (h:t.reads w g) (hM:MapS w P k b n f sz) (hg:w.grownBy w' (some b)):t.reads w' g:=⟨h.1.turned (by omega) hM hg,h.2.1.turned (by omega) hM hg,h.2.2.turned (by omega) hM hg⟩
theorem TyRow.turned {w0 w w':World} {P:Program} {k:TypeId} {b n sz:Nat} {f:List UInt8→Option Value} {v:Value} {ts:List TyV} (h:TyRow w0 w v ts) (hM:MapS w P k b n f sz) (hg:w.grownBy w' (some b)) (hb:w0.heap.size≤b) (hv: ∀g,v.ownBlock=some g→g≠b):TyRow w0 w' v ts where
 own:=own_heap h.own fun q hq=>hg.block q (h.own.lt q hq).2 (fun e=>hv q hq (by injection e))
 reads:=fun g hg' t ht=> (h.reads g hg' t ht).turned hM hg
 below:=h.below.grown hg h.below.size (fun k hk=>by injection hk with hk;omega)
theorem own_low {w:World} {base base':Nat} {e:TypeId} {size n:Nat} {v:Value} {xs:List Value} (h:w.ownsRow base e size v n xs) (hb:base'≤base):w.ownsRow base' e size v n xs:=by
 rcases h.2 with h0| ⟨g,cap,cur,rfl,h1,r⟩
 ·exact⟨h.1, .inl h0⟩
 ·exact⟨h.1, .inr ⟨g,cap,cur,rfl,Nat.le_trans hb h1,r⟩⟩
theorem TyRow.low {w0 w1 w:World} {v:Value} {ts:List TyV} (h:TyRow w1 w v ts) (hb:Below w0.heap.size w0 w1):TyRow w0 w v ts:=⟨own_low h.own hb.size,fun g hg=>h.reads g (hg.imp id fun h=>by have:=hb.size;omega),hb.trans (h.below.mono hb.size)⟩
section
variable {w W W':World} {lb bd bf bk bg nd nf nk ng sd sf sk sg:Nat} {fd ff fk fg:List UInt8→Option Value} {v:Value} {ts:List TyV}
theorem LdS.below (h:LdS w W lb bd bf bk bg nd nf nk ng sd sf sk sg fd ff fk fg v ts) (hb:Below W.heap.size W W'):LdS w W' lb bd bf bk bg nd nf nk ng sd sf sk sg fd ff fk fg v ts where
 c0:=(hb.cell (p:=⟨lb,0,none⟩) h.lt).trans h.c0
 c1:=(hb.cell (p:=⟨lb,1,none⟩) h.lt).trans h.c1
 c2:=(hb.cell (p:=⟨lb,2,none⟩) h.lt).trans h.c2
 c3:=(hb.cell (p:=⟨lb,3,none⟩) h.lt).trans h.c3
 c4:=(hb.cell (p:=⟨lb,4,none⟩) h.lt).trans h.c4
 fz:=fun o=> (hb.frozen (p:=⟨lb,o,none⟩) h.lt).trans (h.fz o)
 hd:=h.hd.keep (hb.block _ h.hd.lt)
 hf:=h.hf.keep (hb.block _ h.hf.lt)
 hk:=h.hk.keep (hb.block _ h.hk.lt)
 hg:=h.hg.keep (hb.block _ h.hg.lt)
 ty:=h.ty.keep hb
 ord:=h.ord
 new:=h.new
 lt:=Nat.lt_of_lt_of_le h.lt hb.size
 rlb:=fun t ht=> (h.rlb t ht).keep (fun k hk _=>hb.block k hk) hb.size (.inl rfl)
theorem LdS.putk (h:LdS w W lb bd bf bk bg nd nf nk ng sd sf sk sg fd ff fk fg v ts) {n' s':Nat} {f':List UInt8→Option Value} (hM:MapS W' Tryz.prog 9 bk n' f' s') (hg:W.grownBy W' (some bk)):
  LdS w W' lb bd bf bk bg nd nf n' ng sd sf s' sg fd ff f' fg v ts:=by
 have ho:=h.ord
 have hb: ∀k,k<W.heap.size→k≠bk→W'.heap[k]?=W.heap[k]?:=fun k hk hne=>hg.block k hk (fun e=>hne (by injection e))
 have hl:lb≠bk:=by omega
 have hc: ∀o,W'.cell? ⟨lb,o,none⟩=W.cell? ⟨lb,o,none⟩:=fun o=>World.cell?_of_block (hb lb h.lt hl)
 exact⟨(hc 0).trans h.c0,(hc 1).trans h.c1,(hc 2).trans h.c2,(hc 3).trans h.c3,(hc 4).trans h.c4,fun o=> (World.frozen?_of_block (hb lb h.lt hl)).trans (h.fz o),
  h.hd.keep (hb _ h.hd.lt (by omega)),h.hf.keep (hb _ h.hf.lt (by omega)),hM,h.hg.keep (hb _ h.hg.lt (by omega)),h.ty.turned h.hk hg (by omega) (fun g hv=>by have:=h.new g hv;omega),h.ord,h.new,Nat.lt_of_lt_of_le h.lt hg.size,fun t ht=> (h.rlb t ht).turned h.hk hg⟩
end
theorem mapS_made_at (w:World) (P:Program) (k:TypeId) (b:Nat) (hb:b=w.heap.size):MapS (w.alloc (.map #[] 0)) P k b 0 (fun _=>none) 0:=by
 subst hb
 exact mapS_made w P k
theorem core_names_short: ∀k∈coreKeys,k.1.length≤1000:=by decide
theorem new_any (w:World):Calls Tryz.prog 18 #[] w fun e w'=> ∃lb bd bf bk bg nk sk v ts,e= .returned (.pointer (some ⟨lb,0,none⟩))∧ts.map TyV.key=coreKeys∧
  LdS w w' lb bd bf bk bg 0 0 nk 0 0 0 sk 0 (fun _=>none) (fun _=>none) (inNames (ts.map TyV.name)) (fun _=>none) v ts∧nk≤26∧Below w.heap.size w w':=by
 have hmm:= @run_makeMap Tryz.prog
 go_enter Tryz.func18,Tryz.ntmps18
 go_wp2_with (go_at_call 38;refine(types_any _).mono ?_;rintro e w1 ⟨g,cap,ts,rfl,hk,ht⟩;refine stop_here ?_)
 have HY:=Lib.hid ht
 have hgr:=(ht.own.lt g rfl)
 have hzt:=ht.below.size
 simp only [World.size_alloc] at hgr hzt
 have HK:=Lib.hid hk
 clear hk ht
 refine go_on ?_
 go_wp2_with fail
 have L0:LdS w (w1.alloc (.cells #[.map (some w.heap.size), .map (some (w.heap.size+1)), .map (some (w.heap.size+1+1)), .map (some (w.heap.size+1+1+1)), .slice (some ⟨g,0,none⟩) 26 cap] 71)) w1.heap.size w.heap.size (w.heap.size+1) (w.heap.size+1+1) (w.heap.size+1+1+1)
   0 0 0 0 0 0 0 0 (fun _=>none) (fun _=>none) (inNames []) (fun _=>none) (.slice (some ⟨g,0,none⟩) 26 cap) ts:=by
  have hb:=HY.out.below
  have e0:inNames []=fun _=>none:=by funext s;simp [inNames]
  rw [e0]
  refine⟨by simp [go_sem],by simp [go_sem],by simp [go_sem],by simp [go_sem],by simp [go_sem],fun o=>by simp [go_sem], ?_, ?_, ?_, ?_, ?_,by omega,fun g' hg'=> ?_,by simp,fun t ht=> (HY.out.reads g (.inl rfl) t ht).keep (fun k hk _=> ((Below.refl _ _).alloc (Nat.le_refl _) _).block k hk) (by simp) (.inr (Nat.le_refl _))⟩
  ·refine(mapS_made w Tryz.prog 9).keep ?_
   rw [Below.heap_alloc _ _ _ (by omega),hb.block _ (by simp;omega),Below.heap_alloc _ _ _ (by simp;omega),Below.heap_alloc _ _ _ (by simp;omega),Below.heap_alloc _ _ _ (by simp)]
  ·refine(mapS_made_at (w.alloc (.map #[] 0)) Tryz.prog 9 _ (by simp)).keep ?_
   rw [Below.heap_alloc _ _ _ (by omega),hb.block _ (by simp;try omega),Below.heap_alloc _ _ _ (by simp;try omega),Below.heap_alloc _ _ _ (by simp)]
  ·refine(mapS_made_at ((w.alloc (.map #[] 0)).alloc (.map #[] 0)) Tryz.prog 9 _ (by simp)).keep ?_
   rw [Below.heap_alloc _ _ _ (by omega),hb.block _ (by simp;try omega),Below.heap_alloc _ _ _ (by simp)]
  ·refine(mapS_made_at (((w.alloc (.map #[] 0)).alloc (.map #[] 0)).alloc (.map #[] 0)) Tryz.prog 9 _ (by simp)).keep ?_
   rw [Below.heap_alloc _ _ _ (by omega),hb.block _ (by simp)]
  ·exact(HY.out.low (((((Below.refl _ _).alloc (Nat.le_refl _) _).alloc (by simp) _).alloc (by simp;omega) _).alloc (by simp;omega) _)).keep ((Below.refl _ _).alloc (Nat.le_refl _) _)
  ·have e:g=g':=by simpa [Value.ownBlock] using hg'
   subst e
   omega
 have HL0:=Lib.hid L0
 clear L0
 go_loopw [3,16] (fun _ i wr=> ∃j sk:Nat,i= .int .i64 j∧j≤26∧Hid (LdS w wr w1.heap.size w.heap.size (w.heap.size+1) (w.heap.size+1+1) (w.heap.size+1+1+1) 0 0 j 0 0 0 sk 0 (fun _=>none) (fun _=>none) (inNames ((ts.take j).map TyV.name)) (fun _=>none) (.slice (some ⟨g,0,none⟩) 26 cap) ts)) (fun _ i _=>26 - (RowKit.intOf i).toNat)
 case atStart=>exact⟨0,0,rfl,by omega,by first|exact HL0|exact HL0.out⟩
 case round=>
  obtain⟨j,sk,rfl,hj,HL⟩:=hrel
  have hlen:ts.length=26:=by
   have:=congrArg List.length HK.out
   simpa [coreKeys] using this
  by_cases hlt:j<26
  ·obtain⟨t,ht⟩: ∃t,ts[j]?=some t:=⟨_,List.getElem?_eq_getElem (by omega)⟩
   have hcells:=tyCells_at ts j t ht
   have hreads:=HL.out.ty.reads g (.inl rfl) t (List.mem_of_getElem? ht)
   have hshort:=core_names_short (t.key) (by rw [←HK.out];exact List.mem_map_of_mem (List.mem_of_getElem? ht))
   have HTK:=Lib.hid (show(ts.take (j+1)).map TyV.name=(ts.take j).map TyV.name++ [t.name] by rw [List.take_add_one,ht];simp)
   have hown:=fun q (hq:q<6)=> ((HL.out.ty.own_at hlen).cellAt (j*6+q) (by omega)).trans (hcells q hq)
   obtain⟨nm,sp,ac,i1,f1,m1⟩:=t
   obtain⟨⟨A1,n1,k1,h1,_⟩,⟨A2,n2,k2,h2,_⟩,⟨A3,n3,k3,h3,_⟩⟩:=hreads
   simp only at h1 h2 h3
   subst h1 h2 h3
   have q0:=hown 0 (by omega)
   have q1:=hown 1 (by omega)
   have q2:=hown 2 (by omega)
   have q3:=hown 3 (by omega)
   have q4:=hown 4 (by omega)
   have q5:=hown 5 (by omega)
   simp only [TyV.cells,List.getElem?_cons_zero,List.getElem?_cons_succ,Nat.add_zero] at q0 q1 q2 q3 q4 q5
   have C2:=HL.out.c2
   have hlw:=HL.out.lt
   clear hcells hown ht
   go_wp2_with fail
   refine wp_region_head 6 (by kernel_rfl) (by kernel_rfl) ?_
   simp only [List.take_succ_cons,List.take_zero,List.drop_succ_cons,List.drop_zero]
   repeat go_big_quiet_step (fail)
   refine wpQuiet_nil ?_
   have hs1:nm.length≤1000:=hshort
   go_wp2_with (at_mapUpdate;refine wpl_put rfl _ _ _ rfl Tryz.underlying9 Tryz.underlying69 rfl (HL.out.below (below_drewN ((Below.refl _ _).alloc (Nat.le_refl _) _) 1)).hk (by unfold maxLen;omega) rfl (by show nm.toArray.size≤_;simp [maxLen];omega) rfl ?_;intro w5 hm5 hg5;refine stop_here ?_)
   have HL5:=Lib.hid ((HL.out.below (below_drewN ((Below.refl _ _).alloc (Nat.le_refl _) _) 1)).putk hm5 hg5)
   clear hm5 hg5
   refine go_on ?_
   go_wp2_with fail
   go_roundw
   case rel=>
    obtain⟨sk',h5⟩: ∃sk',Hid (LdS w w5 w1.heap.size w.heap.size (w.heap.size+1) (w.heap.size+1+1) (w.heap.size+1+1+1) 0 0 (j+1) 0 0 0 sk' 0 (fun _=>none) (fun _=>none) (putF (inNames ((ts.take j).map TyV.name)) nm (.int .i64 1)) (fun _=>none) (.slice (some ⟨g,0,none⟩) 26 cap) ts):=⟨_,HL5⟩
    have e2:(ts.take (j+1)).map TyV.name=(ts.take j).map TyV.name++ [nm]:=HTK.out
    rw [inNames_snoc, ←e2] at h5
    exact⟨j+1,sk',by go_num,by omega,h5⟩
   case measure=>simp [RowKit.intOf];omega
  ·have hj26:j=26:=by omega
   subst hj26
   have htk:ts.take 26=ts:=List.take_of_length_le (by omega)
   rw [htk] at HL
   go_wp2_with fail
   go_ret
   refine⟨w1.heap.size,rfl, ?_⟩
   first
    |exact⟨_,_,_,_,26,sk,_,ts,HK.out,HL.out,by omega,HL.out.ty.below⟩
    |exact⟨w.heap.size,w.heap.size+1,w.heap.size+1+1,w.heap.size+1+1+1,26,⟨sk,⟨.slice (some ⟨g,0,none⟩) 26 cap,⟨ts,⟨HK.out,HL.out,by omega,HL.out.ty.below⟩⟩⟩⟩⟩
    |trace_state
def LeavesB (P:Program) (fn:Func) (tmps:Array Value) (R:Ending→World→Prop):List Deferred→FrameMode→World→Prop
 | [], .returning,w=> ∃v,(results fn tmps).run P w= .ok v w∧R (.returned v) w
 | [], .panicking chain,w=>R (.panicked chain) w
 | [], .run,_=>False
 |d::ds,u,w=>u≠ .run∧ ∃b at' ty cs v w',d.target= .builtin b at' ty cs∧(invoke d.target d.args).run P w= .ok (.value v) w'∧LeavesB P fn tmps R ds u w'
section
variable {P:Program}
theorem step_deferB {fr:Frame} {cs:List Frame} {w w':World} {d:Deferred} {ds:List Deferred} {b:Builtin} {at':Array TypeId} {ty:TypeId} {cn:Array Bool} {v:Value}
  (hm:fr.mode≠ .run) (hd:fr.defers=d::ds) (ht:d.target= .builtin b at' ty cn) (hi:(invoke d.target d.args).run P w= .ok (.value v) w'):
  step P (lone fr cs w)= .next (lone { fr with defers:=ds } cs w'):=by
 obtain⟨t,a⟩:=d
 simp only at ht hi
 subst ht
 refine step_lone_go ?_
 cases hmode:fr.mode with
 |run=>exact absurd hmode hm
 |returning=>simp [stepG,unwind,callDeferred,hmode,hd,hi]
 |panicking chain=>simp [stepG,unwind,callDeferred,hmode,hd,hi]
theorem leavesB_steps {fn:Func} {tmps:Array Value} {R:Ending→World→Prop}: ∀(ds:List Deferred) (u:FrameMode) (w:World) (fr:Frame)
  (cs:List Frame),fr.mode=u→fr.defers=ds→fr.tmps=tmps→P.funcs[fr.fn]?=some fn→fr.kind= .normal→LeavesB P fn tmps R ds u w→
  ∃e w' fr',R e w'∧Comes P (lone fr cs w) (lone fr' cs w') e∧fr'.fn=fr.fn∧fr'.leaving P w' e:=by
 intro ds
 induction ds with
 |nil=>
  intro u w fr cs hu hd ht hf hk h
  cases u with
  |run=>exact h.elim
  |returning=>
   obtain⟨v,hr,hR⟩:=h
   exact⟨.returned v,w,fr,hR,Steps.refl P _,rfl,hu,hd,hk,fn,hf,ht▸hr⟩
  |panicking chain=>exact⟨.panicked chain,w,fr,h,Steps.refl P _,rfl,hu,hd,fn,hf⟩
 |cons d ds ih=>
  intro u w fr cs hu hd ht hf hk h
  obtain⟨hrun,b,at',ty,cn,v,w',htar,hinv,hrest⟩:=h
  have h1:=step_deferB (cs:=cs) (hu▸hrun) hd htar hinv
  obtain⟨e',w'',fr',hR',hs',hfn',hl'⟩:=ih u w' { fr with defers:=ds } cs hu rfl ht hf hk hrest
  exact⟨e',w'',fr',hR',Comes.of_steps (.one h1) hs',hfn',hl'⟩
def bodyPostB (P:Program) (fn:Func) (R:Ending→World→Prop):Exit→Act→World→Prop
 | .normal,a,w| .ret,a,w=>LeavesB P fn a.tmps R a.defers .returning w
 | .panic chain,a,w=>LeavesB P fn a.tmps R a.defers (.panicking chain) w
 | .outgrown,_,w=>R .outgrown w
 |_,_,_=>False
theorem calls_of_wp_builtins {f:FuncId} {fn:Func} {c:Code} {args:Array Value} {w:World} {R:Ending→World→Prop}
  (hf:P.funcs[f]?=some fn) (hb:fn.body=some c)
  (h:c.wp P (bodyPostB P fn R) { tmps:=args++Array.replicate (fn.ntmps - args.size) undef,defers:= [] } w):Calls P f args w R:=by
 intro cs
 let b:Frame:={ (default:Frame) with fn:=f,kind:= .normal }
 have henter:Frame.enter P f args .normal=
   b.at { tmps:=args++Array.replicate (fn.ntmps - args.size) undef,defers:= [] } [.code c]:=by
  simp [Frame.enter,Frame.at,hf,hb,b]
 obtain⟨e,a',w',hq,harr⟩:=h b [] cs
 rw [←henter] at harr
 cases e with
 |normal=>
  obtain⟨e',w'',fr',hR,hs,hfn,hl⟩:=leavesB_steps a'.defers .returning w' { b.at a' [] with mode:= .returning } cs rfl rfl rfl hf rfl hq
  exact⟨e',w'',fr',hR,Comes.of_steps (Steps.trans harr (.one step_end)) hs,hfn,hl⟩
 |ret=>
  obtain⟨todo,hs₀⟩:=harr
  obtain⟨e',w'',fr',hR,hs,hfn,hl⟩:=leavesB_steps a'.defers .returning w' { b.at a' todo with mode:= .returning } cs rfl rfl rfl hf rfl hq
  exact⟨e',w'',fr',hR,Comes.of_steps hs₀ hs,hfn,hl⟩
 |panic chain=>
  obtain⟨todo,hs₀⟩:=harr
  obtain⟨e',w'',fr',hR,hs,hfn,hl⟩:=leavesB_steps a'.defers (.panicking chain) w' { b.at a' todo with mode:= .panicking chain } cs rfl rfl rfl hf rfl hq
  exact⟨e',w'',fr',hR,Comes.of_steps hs₀ hs,hfn,hl⟩
 |exit id=>exact hq.elim
 |goto l=>exact hq.elim
 |outgrown=>exact⟨.outgrown,w',b,hq,harr.resolve_left (by simp [b]),rfl,trivial⟩
end
theorem MapS.del {P:Program} {w:World} {k e t:TypeId} {b n sz:Nat} {f:List UInt8→Option Value} (h:MapS w P k b n f sz) (hk:P.underlying k=some .string) (ht:P.underlying t=some (.map k e))
  {s:ByteArray} (hs:s.size≤maxLen) (ty:TypeId): ∃w',(Builtin.delete_ #[t,k] ty #[.map (some b), .string s]).run P w= .ok (.tuple #[]) w'∧MapS w' P k b n (delF f s.data.toList) (if(f s.data.toList).isSome then sz - 1 else sz)∧w.grownBy w' (some b):=by
 obtain⟨D,hown,hsz,hat,hh⟩:=h
 have ht':=hown.tidy (string_keyed hk)
 obtain⟨w',hrun,h1,h2⟩:=hown.drop (string_keyed hk) ht (Go.WideMaps.keyOf_string_mk hk hs) ty
 refine⟨w',hrun,⟨_,h1, ?_, ?_, ?_⟩,h2.grown⟩
 ·have:=size_del (k:= .string s.data.toList) ht'
  rw [hh,hsz] at this
  split at this<;>simp_all<;>omega
 ·intro s' z
  unfold delF
  by_cases hs':s'=s.data.toList
  ·subst hs'
   rw [atKey_del_same,if_pos rfl]
   rfl
  ·rw [atKey_del_other (lit_ne hs'),if_neg hs',hat]
 ·intro s'
  unfold delF
  by_cases hs':s'=s.data.toList
  ·subst hs'
   rw [has_del_same,if_pos rfl]
   rfl
  ·rw [has_del_other (lit_ne hs'),if_neg hs',hh]
end Go.Proofs.YtpbnjakeielipaaGreatDoor
namespace Go.Proofs.YtpbnjakeielipaaGreatDoor
open Go Go.RowKit Lib
def atOf (ns:List (List UInt8)) (s:List UInt8):Int:=
 match ns.findIdx? (fun x=>x==s) with
 |some i=>i
 |none=> -1
theorem atOf_hit {ns:List (List UInt8)} {s:List UInt8} {k:Nat} (h:ns[k]?=some s) (hn: ∀j,j<k→ ∀x,ns[j]?=some x→x≠s):atOf ns s=k:=by
 have hk:=(List.getElem?_eq_some_iff.1 h).1
 have he:=(List.getElem?_eq_some_iff.1 h).2
 have:ns.findIdx? (fun x=>x==s)=some k:=by
  rw [List.findIdx?_eq_some_iff_getElem]
  refine⟨hk,by simp [he],fun j hj=> ?_⟩
  have:=hn j hj _ (List.getElem?_eq_getElem (by omega))
  simpa using this
 unfold atOf
 rw [this]
theorem atOf_miss {ns:List (List UInt8)} {s:List UInt8} (hn: ∀(j:Nat) (x:List UInt8),ns[j]?=some x→x≠s):atOf ns s= -1:=by
 have:ns.findIdx? (fun x=>x==s)=none:=by
  rw [List.findIdx?_eq_none_iff]
  intro x hx
  obtain⟨j,hj⟩:=List.mem_iff_getElem?.1 hx
  simpa using hn j x hj
 unfold atOf
 rw [this]
theorem at_any (g n cap:Nat) (ns:List (List UInt8)) (s:ByteArray) (w:World) (hl:ns.length=n) (hcap:n≤cap) (hm:n≤4611686018427387904) (hc: ∀j t,ns[j]?=some t→w.cell? ⟨g,j*6,none⟩=some (.string ⟨t.toArray⟩)):
  Calls Tryz.prog 45 #[.slice (some ⟨g,0,none⟩) n cap, .string s] w fun e w'=>e= .returned (.int .i64 (atOf ns s.toList))∧w=w':=by
 have HC:=Lib.hid hc
 have HL:=Lib.hid hl
 clear hc hl
 go_enter Tryz.func45,Tryz.ntmps45
 go_wp2_with fail
 go_loop [5,8] (fun _ i=> ∃k:Nat,k≤n∧i= .int .i64 k∧Hid (∀j,j<k→ ∀x,ns[j]?=some x→x≠s.toList)) (fun _ i=>n - (RowKit.intOf i).toNat)
 case atStart=>exact⟨0,by omega,rfl,fun j hj=>absurd hj (by omega)⟩
 case round=>
  obtain⟨k,hk,rfl,HN⟩:=hrel
  by_cases hlt:k<n
  ·obtain⟨t,ht⟩: ∃t,ns[k]?=some t:=⟨_,List.getElem?_eq_getElem (by rw [HL.out];exact hlt)⟩
   have c0:=HC.out k t ht
   have HT:=Lib.hid ht
   clear ht
   by_cases he:t=s.toList
   ·have HR:=Lib.hid (atOf_hit (he▸HT.out) HN.out)
    have hb0:(t==s.toList)=true:=by simp [he]
    clear he
    go_wp2
    go_ret
    exact⟨by rw [HR.out];rfl,rfl⟩
   ·have hb0:(t==s.toList)=false:=by simp [he]
    have HE:=Lib.hid he
    clear he
    go_wp2
    go_round
    case rel=>exact⟨k+1,by omega,by go_num,fun j hj x hx=>by
     rcases Nat.lt_or_ge j k with h|h
     ·exact HN.out j h x hx
     ·obtain rfl:j=k:=by omega
      rw [HT.out] at hx
      injection hx with hx
      subst hx
      exact HE.out⟩
    case measure=>simp [RowKit.intOf];omega
  ·have hmiss:=atOf_miss (ns:=ns) (s:=s.toList) (fun j x hx=>HN.out j (by have:=(List.getElem?_eq_some_iff.1 hx).1;have:=HL.out;omega) x hx)
   have HMI:=Lib.hid hmiss
   clear hmiss
   go_wp2
   go_ret
   exact⟨by rw [HMI.out];rfl,rfl⟩
theorem atOf_lt {ns:List (List UInt8)} {s:List UInt8} {k:Nat} (h:atOf ns s=k):k<ns.length:=by
 unfold atOf at h
 split at h
 ·rename_i i hi
  rw [List.findIdx?_eq_some_iff_getElem] at hi
  obtain⟨hlt,_⟩:=hi
  omega
 ·omega
theorem sees_none (g n cap:Nat) (ns:List (List UInt8)) (frm s:ByteArray) (w:World) (hl:ns.length=n) (hcap:n≤cap) (hm:n≤4611686018427387904) (hc: ∀j t,ns[j]?=some t→w.cell? ⟨g,j*6,none⟩=some (.string ⟨t.toArray⟩)) (ha:atOf ns s.toList<0):
  Calls Tryz.prog 49 #[.slice (some ⟨g,0,none⟩) n cap, .string frm, .string s] w fun e w'=>e= .returned (.bool false)∧w=w':=by
 obtain⟨z,hz⟩: ∃z,atOf ns s.toList=z:=⟨_,rfl⟩
 have HA:=at_any g n cap ns s w hl hcap hm hc
 rw [hz] at HA ha
 have HA':=Lib.hid HA
 clear HA hz hc hl
 go_enter Tryz.func49,Tryz.ntmps49
 go_wp2_with (go_at_call 45;refine HA'.out.mono ?_;rintro e w1 ⟨rfl,rfl⟩)
 go_ret
 exact⟨rfl,rfl⟩
theorem sees_pub (g n cap:Nat) (ns:List (List UInt8)) (frm s:ByteArray) (w:World) (hl:ns.length=n) (hcap:n≤cap) (hm:n≤4611686018427387904) (hc: ∀j t,ns[j]?=some t→w.cell? ⟨g,j*6,none⟩=some (.string ⟨t.toArray⟩)) (k:Nat) (ha:atOf ns s.toList=k)
  (acc:Int) (h2:w.cell? ⟨g,k*6+2,none⟩=some (.int .i64 acc)) (hp:bits .and .i64 acc 1=1):
  Calls Tryz.prog 49 #[.slice (some ⟨g,0,none⟩) n cap, .string frm, .string s] w fun e w'=>e= .returned (.bool true)∧w=w':=by
 have hk:=atOf_lt ha
 rw [hl] at hk
 have HA:=at_any g n cap ns s w hl hcap hm hc
 rw [ha] at HA
 have HA':=Lib.hid HA
 clear HA ha hc hl
 go_enter Tryz.func49,Tryz.ntmps49
 go_wp2_with (go_at_call 45;refine HA'.out.mono ?_;rintro e w1 ⟨rfl,rfl⟩)
 go_ret
 exact⟨rfl,rfl⟩
theorem sees_priv (g n cap:Nat) (ns:List (List UInt8)) (frm s:ByteArray) (w:World) (hl:ns.length=n) (hcap:n≤cap) (hm:n≤4611686018427387904) (hc: ∀j t,ns[j]?=some t→w.cell? ⟨g,j*6,none⟩=some (.string ⟨t.toArray⟩)) (k:Nat) (ha:atOf ns s.toList=k)
  (acc:Int) (h2:w.cell? ⟨g,k*6+2,none⟩=some (.int .i64 acc)) (hp:bits .and .i64 acc 1=0) (hf:frm.size≤1048576) (hs:s.size≤1048576):
  Calls Tryz.prog 49 #[.slice (some ⟨g,0,none⟩) n cap, .string frm, .string s] w fun e w'=>e= .returned (.bool ((packageS frm).toList==(packageS s).toList))∧w=w':=by
 have hk:=atOf_lt ha
 rw [hl] at hk
 have HA:=at_any g n cap ns s w hl hcap hm hc
 rw [ha] at HA
 have HA':=Lib.hid HA
 clear HA ha hc hl
 go_enter Tryz.func49,Tryz.ntmps49
 go_wp2_with (first| (go_at_call 45;refine HA'.out.mono ?_;rintro e w1 ⟨rfl,rfl⟩) | (go_at_call 76;refine(package_all _ _ (by assumption)).mono ?_;rintro e w1 ⟨rfl,rfl⟩))
 go_ret
 exact⟨rfl,rfl⟩
end Go.Proofs.YtpbnjakeielipaaGreatDoor
namespace Go.Proofs.YtpbnjakeielipaaGreatDoor
open Go Go.RowKit Lib Go.Maps
structure LT where
 ts:List TyK
 files:List UInt8→Option ClassV
def LT.names (σ:LT):List (List UInt8):=σ.ts.map (·.1)
def TypV.key (t:TypV):TyK:=(t.name.data.toList,t.sup.data.toList,t.acc,t.ifs.map (·.data.toList),t.flds,t.mths)
def accAt (ts:List TyK) (s:ByteArray):Int:=((ts[(atOf (ts.map (·.1)) s.toList).toNat]?).map (·.2.2.1)).getD 0
def seesB (ts:List TyK) (frm to:ByteArray):Bool:=if atOf (ts.map (·.1)) to.toList<0 then false else if bits .and .i64 (accAt ts to) 1=1 then true else(packageS frm).toList==(packageS to).toList
def faceB (ts:List TyK) (to:ByteArray):Bool:=bits .and .i64 (accAt ts to) 512 !=0
def aboveW (ld:LT→ByteArray→Option ByteArray×LT) (σ:LT) (frm to:ByteArray) (face:Bool):Option ByteArray×LT:=
 match ld σ to with
 | (some e,σ1)=> (some e,σ1)
 | (none,σ1)=>if seesB σ1.ts frm to=false then(some illeB,σ1) else if faceB σ1.ts to≠face then(some incoB,σ1) else(none,σ1)
def facesW (ld:LT→ByteArray→Option ByteArray×LT) (frm:ByteArray):List ByteArray→LT→Option ByteArray×LT
 | [],σ=> (none,σ)
 |t::r,σ=>match aboveW ld σ frm t true with
  | (some e,σ1)=> (some e,σ1)
  | (none,σ1)=>facesW ld frm r σ1
def lastW (s:ByteArray) (c:ClassV) (t:TypV) (σ:LT):LT:=⟨σ.ts++ [t.key],fun x=>if x=s.data.toList then some c else σ.files x⟩
def loadP (rd:ByteArray→Except ByteArray (ClassV×TypV)):Nat→List (List UInt8)→LT→ByteArray→Option ByteArray×LT
 |0,_,σ,_=> (none,σ)
 |n+1,going,σ,s=>if s.data.toList∈σ.names then(none,σ) else if s.data.toList∈going then(some circB,σ) else
  match rd s with
  | .error e=> (some e,σ)
  | .ok (c,t)=>match aboveW (loadP rd n (going++ [s.data.toList])) σ s t.sup false with
   | (some e,σ1)=> (some e,σ1)
   | (none,σ1)=>match facesW (loadP rd n (going++ [s.data.toList])) s t.ifs σ1 with
    | (some e,σ2)=> (some e,σ2)
    | (none,σ2)=> (none,lastW s c t σ2)
inductive ErrV:Value→ByteArray→Prop where
 |base (s:ByteArray):ErrV (failV (langB s)) s
 |wrap (v:Value) (f s:ByteArray):ErrV v s→ErrV (.iface 225 (.agg #[.string f,v])) s
def ErrIs:Option ByteArray→Value→Prop
 |none,x=>x= .nilIface
 |some e,x=>ErrV x e
structure LPos where
 lb:Nat
 bd:Nat
 bf:Nat
 bk:Nat
 bg:Nat
 ex:List Nat
def LPos.ro (L:LPos) (v:Value) (g:Nat):Prop:=g≠L.lb∧g≠L.bd∧g≠L.bf∧g≠L.bk∧g≠L.bg∧v.ownBlock≠some g∧g∉L.ex
def DefAt (W:World) (ok:Nat→Prop):Option (List UInt8)→Option Value→Prop
 |none,x=>x=none
 |some l,x=> ∃A cap,x=some (.slice A l.length cap)∧RdB W A l.length cap l∧(∀a,A=some a→a.block<W.heap.size∧ok a.block)∧l.length≤65536
def FileAt (W:World) (ok:Nat→Prop):Option ClassV→Option Value→Prop
 |none,x=>x=none
 |some c,x=> ∃p i f m,x=some (.agg (c.cells p i f m).toArray)∧ClassAt W ok c p i f m
theorem slAt_step {W W':World} {ok ok':Nat→Prop} {size n:Nat} {cs:List Value} {v:Value} (h:SlAt W ok size n cs v) (hk:Kept ok W W') (ho: ∀g,g<W.heap.size→ok g→ok' g):SlAt W' ok' size n cs v:=
 ((h.mono (ok':=fun g=>ok g∧ok' g) (fun g hg hk=> ⟨hk,ho g hg hk⟩)).keep (hk.mono fun g hg=>hg.1)).mono fun g _ hg=>hg.2
def TyRd (W:World) (ok:Nat→Prop) (t:TyV):Prop:=SlAt W ok 1 t.ifl.length t.ifCells t.ifs∧SlAt W ok 5 t.fl.length t.fCells t.flds∧SlAt W ok 5 t.ml.length t.mCells t.mths
theorem DefAt.keep {W W':World} {ok ok':Nat→Prop} {o:Option (List UInt8)} {x:Option Value} (h:DefAt W ok o x) (hk:Kept ok W W') (ho: ∀g,g<W.heap.size→ok g→ok' g):DefAt W' ok' o x:=by
 cases o with
 |none=>exact h
 |some l=>
  obtain⟨A,cap,h1,h2,h3,h4⟩:=h
  refine⟨A,cap,h1,⟨h2.hlen,h2.hle,h2.hmax,fun h0=> ?_⟩,fun a ha=> ⟨Nat.lt_of_lt_of_le (h3 a ha).1 hk.size,ho _ (h3 a ha).1 (h3 a ha).2⟩,h4⟩
  obtain⟨b,off,e,hlt,hc⟩:=h2.hat h0
  exact⟨b,off,e,Nat.lt_of_lt_of_le hlt hk.size,fun i hi=> (hk.cell b hlt (h3 _ e).2 _).trans (hc i hi)⟩
theorem FileAt.keep {W W':World} {ok ok':Nat→Prop} {o:Option ClassV} {x:Option Value} (h:FileAt W ok o x) (hk:Kept ok W W') (ho: ∀g,g<W.heap.size→ok g→ok' g):FileAt W' ok' o x:=by
 cases o with
 |none=>exact h
 |some c=>
  obtain⟨p,i,f,m,h1,h2⟩:=h
  exact⟨p,i,f,m,h1,(h2.mono (ok':=fun g=>ok g∧ok' g) (fun g hg hk=> ⟨hk,ho g hg hk⟩)).keep (hk.mono fun g hg=>hg.1) |>.mono fun g _ hg=>hg.2⟩
theorem TyRd.keep {W W':World} {ok ok':Nat→Prop} {t:TyV} (h:TyRd W ok t) (hk:Kept ok W W') (ho: ∀g,g<W.heap.size→ok g→ok' g):TyRd W' ok' t:=⟨slAt_step h.1 hk ho,slAt_step h.2.1 hk ho,slAt_step h.2.2 hk ho⟩
structure LdG (B:Nat) (L:LPos) (nd:Nat) (defs:List UInt8→Option (List UInt8)) (files:List UInt8→Option ClassV) (ks going:List (List UInt8)) (ts:List TyV) (v:Value) (W:World):Prop where
 c0:W.cell? ⟨L.lb,0,none⟩=some (.map (some L.bd))
 c1:W.cell? ⟨L.lb,1,none⟩=some (.map (some L.bf))
 c2:W.cell? ⟨L.lb,2,none⟩=some (.map (some L.bk))
 c3:W.cell? ⟨L.lb,3,none⟩=some (.map (some L.bg))
 c4:W.cell? ⟨L.lb,4,none⟩=some v
 fz: ∀o,W.frozen? ⟨L.lb,o,none⟩=false
 hd: ∃fd,MapS W Tryz.prog 9 L.bd nd fd nd∧ ∀s,DefAt W (L.ro v) (defs s) (fd s)
 hf: ∃ff n,n≤ks.length∧MapS W Tryz.prog 9 L.bf n ff n∧ ∀s,FileAt W (L.ro v) (files s) (ff s)
 hk: ∃n,n≤ks.length∧MapS W Tryz.prog 9 L.bk n (inNames ks) n
 hg: ∃n,n≤going.length∧MapS W Tryz.prog 9 L.bg n (inNames going) n
 ty:W.ownsRow B 75 6 v ts.length (tyCells ts)
 rd: ∀t∈ts,TyRd W (L.ro v) t
 ord:B≤L.bd∧L.bd<L.bf∧L.bf<L.bk∧L.bk<L.bg∧L.bg<L.lb
 new: ∀g,v.ownBlock=some g→g≠L.lb∧g≠L.bd∧g≠L.bf∧g≠L.bk∧g≠L.bg
 lt:L.lb<W.heap.size
 exl: ∀x∈L.ex,x<W.heap.size
 newx: ∀g,v.ownBlock=some g→g∉L.ex
 nex: ∀x∈L.ex,x≠L.lb∧x≠L.bd∧x≠L.bf∧x≠L.bk∧x≠L.bg
theorem MapS.tight {w:World} {P:Program} {k:TypeId} {b n sz:Nat} {f:List UInt8→Option Value} (h:MapS w P k b n f sz):MapS w P k b sz f sz:=by
 obtain⟨D,⟨es,clock,hb,F,hs,hD⟩,hsz,r⟩:=h
 refine⟨D,⟨es,clock,hb,F, ?_,hD⟩,hsz,r⟩
 subst hD
 rw [←hsz]
 simp [Maps.size,length_sorted]
section
variable {B:Nat} {L:LPos} {nd:Nat} {defs:List UInt8→Option (List UInt8)} {files:List UInt8→Option ClassV} {ks going:List (List UInt8)} {ts:List TyV} {v:Value} {W W':World}
theorem LdG.but (h:LdG B L nd defs files ks going ts v W) (S:List Nat) (hb:But W.heap.size S W W') (hS: ∀g∈S,g≠L.lb∧g≠L.bd∧g≠L.bf∧g≠L.bk∧ ¬L.ro v g∧v.ownBlock≠some g) {going':List (List UInt8)} (hg: ∃n,n≤going'.length∧MapS W' Tryz.prog 9 L.bg n (inNames going') n):
  LdG B L nd defs files ks going' ts v W':=by
 have ho:=h.ord
 have hlt:=h.lt
 have hc: ∀o,W'.cell? ⟨L.lb,o,none⟩=W.cell? ⟨L.lb,o,none⟩:=fun o=>hb.cell (p:=⟨L.lb,o,none⟩) h.lt (fun hm=> (hS _ hm).1 rfl)
 have hkp:Kept (L.ro v) W W':=Kept.of_but hb fun g hg hm=> (hS g hm).2.2.2.2.1 hg
 obtain⟨fd,d1,d2⟩:=h.hd
 obtain⟨ff,n1,f0,f1,f2⟩:=h.hf
 obtain⟨n2,k0,k1⟩:=h.hk
 exact⟨(hc 0).trans h.c0,(hc 1).trans h.c1,(hc 2).trans h.c2,(hc 3).trans h.c3,(hc 4).trans h.c4,fun o=> (hb.frozen (p:=⟨L.lb,o,none⟩) h.lt (fun hm=> (hS _ hm).1 rfl)).trans (h.fz o),
  ⟨fd,d1.but hb d1.lt (fun hm=> (hS _ hm).2.1 rfl),fun s=> (d2 s).keep hkp fun g _ hg=>hg⟩,⟨ff,n1,f0,f1.but hb f1.lt (fun hm=> (hS _ hm).2.2.1 rfl),fun s=> (f2 s).keep hkp fun g _ hg=>hg⟩,
  ⟨n2,k0,k1.but hb k1.lt (fun hm=> (hS _ hm).2.2.2.1 rfl)⟩,hg,own_heap h.ty fun q hq=>hb.block q (h.ty.lt q hq).2 (fun hm=> (hS q hm).2.2.2.2.2 hq),fun t ht=> (h.rd t ht).keep hkp fun g _ hg=>hg,h.ord,h.new,Nat.lt_of_lt_of_le h.lt hb.size,(fun x hx=>Nat.lt_of_lt_of_le (h.exl x hx) hb.size),h.newx,h.nex⟩
theorem LdG.below (h:LdG B L nd defs files ks going ts v W) (hb:Below W.heap.size W W'):LdG B L nd defs files ks going ts v W':=by
 obtain⟨n,h1,h2⟩:=h.hg
 exact h.but [] (But.of_below hb) (by simp) ⟨n,h1,h2.keep (hb.block _ h2.lt)⟩
theorem but_grown {w w':World} {b:Nat} (h:w.grownBy w' (some b)):But w.heap.size [b] w w':=(But.refl _ _ _).grown h (Nat.le_refl _) fun k hk=> .inl (by injection hk with hk;simp [hk])
theorem LdG.goes (h:LdG B L nd defs files ks going ts v W) {going':List (List UInt8)} {n m:Nat} {f:List UInt8→Option Value} (hf:f=inNames going') (hM:MapS W' Tryz.prog 9 L.bg n f m) (hm:m≤going'.length) (hg:W.grownBy W' (some L.bg)):LdG B L nd defs files ks going' ts v W':=by
 have ho:=h.ord
 refine h.but [L.bg] (but_grown hg) (fun g hm=> ?_) ⟨m,hm,hf▸hM.tight⟩
 obtain rfl:g=L.bg:=by simpa using hm
 exact⟨by omega,by omega,by omega,by omega,fun hr=>hr.2.2.2.2.1 rfl,fun e=> (h.new _ e).2.2.2.2 rfl⟩
theorem LdG.putk (h:LdG B L nd defs files ks going ts v W) {ks':List (List UInt8)} {n m:Nat} {f:List UInt8→Option Value} (hf:f=inNames ks') (hl:ks.length≤ks'.length) (hM:MapS W' Tryz.prog 9 L.bk n f m) (hm:m≤ks'.length) (hg:W.grownBy W' (some L.bk)):LdG B L nd defs files ks' going ts v W':=by
 have ho:=h.ord
 have hlt:=h.lt
 have hb:=but_grown hg
 have hS: ∀q,q∈ [L.bk]→q=L.bk:=fun q hq=>by simpa using hq
 have hc: ∀o,W'.cell? ⟨L.lb,o,none⟩=W.cell? ⟨L.lb,o,none⟩:=fun o=>hb.cell (p:=⟨L.lb,o,none⟩) h.lt (fun hm=>by have:=hS _ hm;simp at this;omega)
 have hkp:Kept (L.ro v) W W':=Kept.of_but hb fun g hg hm=>hg.2.2.2.1 (hS g hm)
 obtain⟨fd,d1,d2⟩:=h.hd
 obtain⟨ff,n1,f0,f1,f2⟩:=h.hf
 obtain⟨n3,g0,g1⟩:=h.hg
 exact⟨(hc 0).trans h.c0,(hc 1).trans h.c1,(hc 2).trans h.c2,(hc 3).trans h.c3,(hc 4).trans h.c4,fun o=> (hb.frozen (p:=⟨L.lb,o,none⟩) h.lt (fun hm=>by have:=hS _ hm;simp at this;omega)).trans (h.fz o),
  ⟨fd,d1.but hb d1.lt (fun hm=>by have:=hS _ hm;omega),fun s=> (d2 s).keep hkp fun g _ hg=>hg⟩,⟨ff,n1,Nat.le_trans f0 hl,f1.but hb f1.lt (fun hm=>by have:=hS _ hm;omega),fun s=> (f2 s).keep hkp fun g _ hg=>hg⟩,
  ⟨m,hm,hf▸hM.tight⟩,⟨n3,g0,g1.but hb g1.lt (fun hm=>by have:=hS _ hm;omega)⟩,own_heap h.ty fun q hq=>hb.block q (h.ty.lt q hq).2 (fun hm=> (h.new q hq).2.2.2.1 (hS q hm)),fun t ht=> (h.rd t ht).keep hkp fun g _ hg=>hg,h.ord,h.new,Nat.lt_of_lt_of_le h.lt hb.size,(fun x hx=>Nat.lt_of_lt_of_le (h.exl x hx) hb.size),h.newx,h.nex⟩
end
section
variable {B:Nat} {L:LPos} {nd:Nat} {defs:List UInt8→Option (List UInt8)} {files:List UInt8→Option ClassV} {ks going:List (List UInt8)} {ts:List TyV} {v:Value} {W W':World}
theorem LdG.type (h:LdG B L nd defs files ks going ts v W) {t:TyV} {g c:Nat} (ho:W'.ownsRow B 75 6 (.slice (some ⟨g,0,none⟩) (ts.length+1) c) (ts.length+1) (tyCells ts++t.cells)) (hg:W.grownBy W' v.ownBlock) (hgg:v.ownBlock=some g∨g=W.heap.size) (ht:TyRd W (L.ro v) t):
  LdG B L nd defs files ks going (ts++ [t]) (.slice (some ⟨g,0,none⟩) (ts.length+1) c) (W'.setCell ⟨L.lb,4,none⟩ (.slice (some ⟨g,0,none⟩) (ts.length+1) c)):=by
 have hord:=h.ord
 have hlt:=h.lt
 have hsz:=hg.size
 have hne: ∀q,v.ownBlock=some q→q≠L.lb:=fun q hq=> (h.new q hq).1
 have hnb: ∀k,k<W.heap.size→v.ownBlock≠some k→W'.heap[k]?=W.heap[k]?:=fun k hk hn=>hg.block k hk (fun e=>hn e.symm)
 have hlb:W'.heap[L.lb]?=W.heap[L.lb]?:=hnb _ h.lt (fun e=> (h.new _ e).1 rfl)
 have hbd:W'.heap[L.bd]?=W.heap[L.bd]?:=hnb _ (by omega) (fun e=> (h.new _ e).2.1 rfl)
 have hbf:W'.heap[L.bf]?=W.heap[L.bf]?:=hnb _ (by omega) (fun e=> (h.new _ e).2.2.1 rfl)
 have hbk:W'.heap[L.bk]?=W.heap[L.bk]?:=hnb _ (by omega) (fun e=> (h.new _ e).2.2.2.1 rfl)
 have hbg:W'.heap[L.bg]?=W.heap[L.bg]?:=hnb _ (by omega) (fun e=> (h.new _ e).2.2.2.2 rfl)
 have hgl:g≠L.lb∧g≠L.bd∧g≠L.bf∧g≠L.bk∧g≠L.bg:=by
  rcases hgg with e|e
  ·exact h.new g e
  ·omega
 have hkp:Kept (L.ro v) W (W'.setCell ⟨L.lb,4,none⟩ (.slice (some ⟨g,0,none⟩) (ts.length+1) c)):=⟨by simpa using hsz,fun q hq hr o=> (World.cell?_of_block (w:=W') (Below.heap_setCell _ _ _ _ (fun e=>hr.1 (by first|exact e|exact e.symm)))).trans (World.cell?_of_block (w:=W) (hnb q hq hr.2.2.2.2.2.1))⟩
 have hro: ∀q,q<W.heap.size→L.ro v q→L.ro (.slice (some ⟨g,0,none⟩) (ts.length+1) c) q:=fun q hq hr=> ⟨hr.1,hr.2.1,hr.2.2.1,hr.2.2.2.1,hr.2.2.2.2.1,fun e=>by
  have e':g=q:=by simpa [Value.ownBlock] using e
  subst e'
  rcases hgg with e2|e2
  ·exact hr.2.2.2.2.2.1 e2
  ·omega,hr.2.2.2.2.2.2⟩
 have hcell: ∀o,o≠4→(W'.setCell ⟨L.lb,4,none⟩ (.slice (some ⟨g,0,none⟩) (ts.length+1) c)).cell? ⟨L.lb,o,none⟩=W.cell? ⟨L.lb,o,none⟩:=fun o ho=> (World.cell?_setCell_other _ _ _ _ (by intro e;injection e with _ e;exact ho (by first|exact e|exact e.symm))).trans (World.cell?_of_block (w:=W) hlb)
 have hmap: ∀b,b≠L.lb→(W'.setCell ⟨L.lb,4,none⟩ (.slice (some ⟨g,0,none⟩) (ts.length+1) c)).heap[b]?=W'.heap[b]?:=fun b hb=>Below.heap_setCell _ _ _ _ (by omega)
 obtain⟨fd,d1,d2⟩:=h.hd
 obtain⟨ff,n1,f0,f1,f2⟩:=h.hf
 obtain⟨n2,k0,k1⟩:=h.hk
 obtain⟨n3,g0,g1⟩:=h.hg
 refine⟨(hcell 0 (by omega)).trans h.c0,(hcell 1 (by omega)).trans h.c1,(hcell 2 (by omega)).trans h.c2,(hcell 3 (by omega)).trans h.c3,World.cell?_setCell_same _ _ _ ((World.cell?_of_block (w:=W) hlb).trans h.c4),
  fun o=>by rw [World.frozen?_setCell];exact(World.frozen?_of_block (w:=W) hlb).trans (h.fz o),⟨fd,d1.keep ((hmap _ (by omega)).trans hbd),fun s=> (d2 s).keep hkp hro⟩,⟨ff,n1,f0,f1.keep ((hmap _ (by omega)).trans hbf),fun s=> (f2 s).keep hkp hro⟩,
  ⟨n2,k0,k1.keep ((hmap _ (by omega)).trans hbk)⟩,⟨n3,g0,g1.keep ((hmap _ (by omega)).trans hbg)⟩,own_eq (own_set ho (by simpa using hgl.1) _) (by simp) (by rw [tyCells_snoc]),fun u hu=> ?_,h.ord,fun q hq=> ?_,by simpa using Nat.lt_of_lt_of_le hlt hsz,fun x hx=>by simpa using Nat.lt_of_lt_of_le (h.exl x hx) hsz,fun q hq=> ?_,h.nex⟩
 ·rcases List.mem_append.1 hu with hu|hu
  ·exact(h.rd u hu).keep hkp hro
  ·obtain rfl:u=t:=by simpa using hu
   exact ht.keep hkp hro
 ·have e':g=q:=by simpa [Value.ownBlock] using hq
  subst e'
  exact hgl
 ·have e':g=q:=by simpa [Value.ownBlock] using hq
  subst e'
  rcases hgg with e|e
  ·exact h.newx g e
  ·intro hx
   have:=h.exl g hx
   omega
theorem LdG.rows (h:LdG B L nd defs files ks going ts v W) (h0:0<ts.length): ∃g cap,v= .slice (some ⟨g,0,none⟩) ts.length cap∧ts.length≤cap∧g<W.heap.size∧ ∀j t,ts[j]?=some t→ ∀q,q<6→W.cell? ⟨g,j*6+q,none⟩=t.cells[q]?:=by
 rcases h.ty.2 with⟨_,h1⟩ | ⟨g,cap,cur,rfl,hb,hg,hnc,hcm,hcs,hx⟩
 ·omega
 ·refine⟨g,cap,rfl,hnc,(h.ty.lt g rfl).2,fun j t ht q hq=> ?_⟩
  have hl:j<ts.length:=(List.getElem?_eq_some_iff.1 ht).1
  exact(h.ty.cellAt (j*6+q) (by omega)).trans (tyCells_at ts j t ht q hq)
end
theorem and_one (acc:Int):bits .and .i64 acc 1=1∨bits .and .i64 acc 1=0:=by
 have h: ∀x:BitVec 64,(x&&&1#64)=1#64∨(x&&&1#64)=0#64:=by
  intro x
  rcases Nat.mod_two_eq_zero_or_one x.toNat with h|h
  ·right
   apply BitVec.eq_of_toNat_eq
   simp [BitVec.toNat_and,Nat.and_one_is_mod,h]
  ·left
   apply BitVec.eq_of_toNat_eq
   simp [BitVec.toNat_and,Nat.and_one_is_mod,h]
 have e:bits .and .i64 acc 1=IntKind.i64.wrap ((BitVec.ofInt 64 acc&&&1#64).toNat:Nat):=rfl
 rw [e]
 rcases h (BitVec.ofInt 64 acc) with h|h
 ·left
  rw [h]
  decide
 ·right
  rw [h]
  decide
theorem sees_all {ts:List TyV} {g cap:Nat} (frm s:ByteArray) (W:World) (hcap:ts.length≤cap) (hm:ts.length≤100000) (hc: ∀j t,ts[j]?=some t→ ∀q,q<6→W.cell? ⟨g,j*6+q,none⟩=t.cells[q]?) (hf:frm.size≤1048576) (hs:s.size≤1048576):
  Calls Tryz.prog 49 #[.slice (some ⟨g,0,none⟩) ts.length cap, .string frm, .string s] W fun e w'=>e= .returned (.bool (seesB (ts.map TyV.key) frm s))∧W=w':=by
 have hc': ∀j t,(ts.map TyV.name)[j]?=some t→W.cell? ⟨g,j*6,none⟩=some (.string ⟨t.toArray⟩):=fun j t ht=>by
  rw [List.getElem?_map] at ht
  obtain⟨u,hu,rfl⟩:=Option.map_eq_some_iff.1 ht
  exact hc j u hu 0 (by omega)
 have hn:(ts.map TyV.key).map (·.1)=ts.map TyV.name:=by rw [List.map_map];rfl
 have hm':ts.length≤4611686018427387904:=by omega
 by_cases ha:atOf (ts.map TyV.name) s.toList<0
 ·refine(sees_none g ts.length cap (ts.map TyV.name) frm s W (by simp) hcap hm' hc' ha).mono fun e w' hq=> ⟨hq.1.trans ?_,hq.2⟩
  unfold seesB
  rw [hn,if_pos ha]
 ·obtain⟨k,hk⟩: ∃k:Nat,atOf (ts.map TyV.name) s.toList=k:=⟨_,(Int.toNat_of_nonneg (by omega)).symm⟩
  have hkl:=atOf_lt hk
  simp only [List.length_map] at hkl
  have hacc:accAt (ts.map TyV.key) s=ts[k].acc:=by
   unfold accAt
   rw [hn,hk,Int.toNat_natCast,List.getElem?_map,List.getElem?_eq_getElem hkl]
   rfl
  have h2:=hc k ts[k] (List.getElem?_eq_getElem hkl) 2 (by omega)
  rcases and_one ts[k].acc with hp|hp
  ·refine(sees_pub g ts.length cap (ts.map TyV.name) frm s W (by simp) hcap hm' hc' k hk ts[k].acc h2 hp).mono fun e w' hq=> ⟨hq.1.trans ?_,hq.2⟩
   unfold seesB
   rw [hn,if_neg ha,hacc,if_pos hp]
  ·refine(sees_priv g ts.length cap (ts.map TyV.name) frm s W (by simp) hcap hm' hc' k hk ts[k].acc h2 hp hf hs).mono fun e w' hq=> ⟨hq.1.trans ?_,hq.2⟩
   unfold seesB
   rw [hn,if_neg ha,hacc,if_neg (by omega)]
end Go.Proofs.YtpbnjakeielipaaGreatDoor
