/- Part 32 of what the laws rest on: walks. Conditions: those that each theorem names. -/
import Derived.Test.YtdbniocnjhfhdaaGreatDoorB31
set_option linter.unusedSimpArgs false
set_option linter.unusedVariables false
set_option maxRecDepth 100000
set_option maxHeartbeats 4000000
namespace Go.Proofs.YtdbniocnjhfhdaaGreatDoor
open Go Go.RowKit Lib
structure RO (w:World) (ok:Nat→Prop) (c:aqc) (A:Option Addr) (cap:Nat) (ifs flds mths:Value) (G:Nat) (tc:List Value) (wk:World):Prop where
 r:R5 w ok c A cap ifs flds mths wk
 z:Bx wk (w.heap.size+1) aq0 39
 t:Bx wk G tc 39
 lo:w.heap.size+1<G
section
variable {w wk wq:World} {ok:Nat→Prop} {c:aqc} {A:Option Addr} {cap:Nat} {ifs flds mths:Value} {G:Nat} {tc:List Value}
theorem RO.low (B:aqQ w ok c A cap ifs flds mths) (h:RO w ok c A cap ifs flds mths G tc wk) (hb:Below (G+1) wk wq):RO w ok c A cap ifs flds mths G tc wq:=by
 have hlo:=h.lo
 have hbel:=h.r.bel.trans (hb.mono Om)
 exact⟨⟨hbel,h.r.bx.below hb Om,B.below hbel,Nat.lt_of_lt_of_le h.r.lt hb.size⟩,h.z.below hb Om,h.t.below hb Om,h.lo⟩
theorem RO.below (h:RO w ok c A cap ifs flds mths G tc wk) (hb:Below wk.heap.size wk wq):RO w ok c A cap ifs flds mths G tc wq:=⟨h.r.below hb,h.z.below hb h.z.lt,h.t.below hb h.t.lt,h.lo⟩
theorem RO.set (B:aqQ w ok c A cap ifs flds mths) (h:RO w ok c A cap ifs flds mths G tc wk) (j:Nat) (u:Value):RO w ok c A cap ifs flds mths G (tc.set j u) (wk.setCell ⟨G,j,none⟩ u):=by
 have hlo:=h.lo
 exact⟨h.r.set B (by show w.heap.size<G;omega) u,h.z.set_other _ _ (by show G≠_;omega),h.t.set j u,h.lo⟩
end
theorem hq5 (c:aqc) (p i f m:Value) (ok:Nat→Prop) (w:World) (h:aqy w ok c p i f m) (hF:dql c) (h0:aqK c=0):
  Calls Tryz.prog 60 #[bqb c p i f m] w fun e w'=>Below w.heap.size w w'∧ ∃iv fv mv,e= .returned (.tuple #[.agg ((aqX c).vals iv fv mv).toArray, .int .i64 0])∧dqX w' (fun g=>w.heap.size≤g) (aqX c) iv fv mv:=by
 obtain⟨A1,k1,rfl,q1,z1⟩:=aqd h.hpool
 obtain⟨A2,k2,rfl,q2,z2⟩:=aqd h.hifs
 obtain⟨A3,k3,rfl,q3,z3⟩:=aqd h.hflds
 obtain⟨ms,m1,m2,m3⟩:=h.hmths
 obtain⟨A4,k4,rfl,q4,z4⟩:=aqd m2
 have HC:=Hq h
 have HFF:=Hq hF
 have BK:=Hq (show aqQ w ok c A1 k1 (.slice A2 c.ifs.length k2) (.slice A3 c.flds.length k3) (.slice A4 c.mths.length k4) from⟨h.hpool,rfl,rfl,rfl⟩)
 have R0:=Hq ((R5.start BK.out).alloc (.cells aq0.toArray 39))
 have Z0:=Hq (show Bx ((w.alloc (.cells #[.int .i64 c.minor, .int .i64 c.major, .slice A1 c.pool.length k1, .int .i64 c.acc, .int .i64 c.this, .int .i64 c.sup, .slice A2 c.ifs.length k2, .slice A3 c.flds.length k3, .slice A4 c.mths.length k4] 58)).alloc (.cells aq0.toArray 39)) (w.heap.size+1) aq0 39 from aqh _ aq0 39 _ Sp)
 have HF1:=Hq (show∀k∈c.pool,bqA k.a from fun k hk=> (hF.pool k hk).1)
 have HE:=Hq h0
 have HMS:=Hq m1
 have HM2:=Hq m2
 obtain⟨n1,hn1⟩: ∃s,dqW c.pool c.this=s:=⟨_,rfl⟩
 obtain⟨n2,hn2⟩: ∃s,dqW c.pool c.sup=s:=⟨_,rfl⟩
 obtain⟨b1,hb1⟩: ∃s,(aqE c.pool c.this).isSome=s:=⟨_,rfl⟩
 obtain⟨b2,hb2⟩: ∃s,(aqE c.pool c.sup).isSome=s:=⟨_,rfl⟩
 have HN1:=Hq (show(aqE c.pool c.this).getD ⟨#[]⟩=n1 from hn1)
 have HN2:=Hq (show(aqE c.pool c.sup).getD ⟨#[]⟩=n2 from hn2)
 have HB1:=Hq hb1
 have HB2:=Hq hb2
 have HT:=Hq (show aqX c=⟨n1,n2,c.acc,c.ifs.map (dqW c.pool),c.flds.map (mqw c.pool),c.mths.map (mqT c.pool)⟩ by unfold aqX;rw [hn1,hn2])
 rw [HT.out]
 clear h hF h0 m1 m2 m3 hn1 hn2 hb1 hb2
 rw [aqe]
 unfold aq0 at R0 Z0
 go_enter Tryz.func60,Tryz.ntmps60
 go_wp2_with (first
  | (refine wpList_load_row rfl _ _ rfl w.heap.size rfl _ _ _ _ R0.out.bx Tryz.underlying58 rfl Kq9 ?_)
  | (go_at_call 59;refine aqa ?_))
 refine aqb ?_
 refine(gqI c _ _ _ _ ok _ (HC.out.keep (aqC.of_below R0.out.bel)) HFF.out).mono ?_
 rw [HE.out]
 rintro e w1 ⟨rfl,hb⟩
 have R1:=Hq (R0.out.below hb)
 have Z1:=Hq (Z0.out.below hb Sp)
 have hz1:w.heap.size+1<w1.heap.size:=by have:=hb.size;simp at this;omega
 have r3:=R1.out.bx.cell 3 rfl
 clear hb R0 Z0
 obtain⟨G,hG⟩: ∃G,w1.heap.size=G:=⟨_,rfl⟩
 have O1:=Hq (show RO w ok c A1 k1 (.slice A2 c.ifs.length k2) (.slice A3 c.flds.length k3) (.slice A4 c.mths.length k4) G [.string ⟨#[]⟩, .string ⟨#[]⟩, .int .i64 c.acc, .slice none 0 0, .slice none 0 0, .slice none 0 0] (w1.alloc (.cells #[.string ⟨#[]⟩, .string ⟨#[]⟩, .int .i64 c.acc, .slice none 0 0, .slice none 0 0, .slice none 0 0] 39)) from⟨R1.out.alloc _,Z1.out.below (Rf9.alloc Nr _) Z1.out.lt,by rw [←hG];exact aql w1 [.string ⟨#[]⟩, .string ⟨#[]⟩, .int .i64 c.acc, .slice none 0 0, .slice none 0 0, .slice none 0 0] 39,by omega⟩)
 have r4:=O1.out.r.bx.cell 4 rfl
 have HGs:=Hq hG
 clear R1 Z1
 go_wp2_with (first
  | (refine wpList_load_row rfl _ _ rfl w.heap.size rfl _ _ _ _ O1.out.r.bx Tryz.underlying58 rfl Kq9 ?_)
  | (go_at_call 89;refine aqa ?_))
 refine aqb ?_
 refine(eq7 O1.out.r HFF.out.this HF1.out).mono ?_
 simp only [cqh]
 rw [HN1.out,HB1.out]
 rintro e w2 ⟨rfl,hb⟩
 have O2:=Hq (O1.out.below hb)
 have t0:=O2.out.t.cell 0 rfl
 have f0:=O2.out.t.frozen 0
 clear hG
 have O3:=Hq (O2.out.set BK.out 0 (.string n1))
 simp only [List.set_cons_zero] at O3
 have r5:=O3.out.r.bx.cell 5 rfl
 clear hb O1 r3 r4
 go_wp2_with (first
  | (refine wpList_load_row rfl _ _ rfl w.heap.size rfl _ _ _ _ O3.out.r.bx Tryz.underlying58 rfl Kq9 ?_)
  | (go_at_call 89;refine aqa ?_))
 refine aqb ?_
 refine(eq7 O3.out.r HFF.out.sup HF1.out).mono ?_
 simp only [cqh]
 rw [HN2.out,HB2.out]
 rintro e w3 ⟨rfl,hb⟩
 have O4:=Hq (O3.out.below hb)
 have t1:=O4.out.t.cell 1 rfl
 have f1:=O4.out.t.frozen 1
 have O5:=Hq (O4.out.set BK.out 1 (.string n2))
 simp only [List.set_cons_succ,List.set_cons_zero] at O5
 clear hb O2 O3 O4 t0 f0 r5
 have hR:=O5.out.t.lt
 go_wp2_with fail
 generalize w3.setCell ⟨G,1,none⟩ (.string n2)=wx1 at*
 have O1s:=O5
 clear t1 f1 O5
 obtain⟨M1,hM1⟩: ∃M,wx1.heap.size=M:=⟨_,rfl⟩
 have hGM1:G<M1:=by have:=O1s.out.t.lt;omega
 have HM1:=Hq hM1
 clear hM1
 go_loopw [6] (fun i wr=> ∃(k:Nat) (v:Value),k≤c.ifs.length∧i= .int .i64 k∧M1≤wr.heap.size∧Hid (RO w ok c A1 k1 (.slice A2 c.ifs.length k2) (.slice A3 c.flds.length k3) (.slice A4 c.mths.length k4) G [.string n1, .string n2, .int .i64 c.acc,v, .slice none 0 0, .slice none 0 0] wr)∧Hid (But M1 [G] wx1 wr)∧Hid (wr.ownsRow M1 9 1 v k (((c.ifs.take k).map (dqW c.pool)).map Value.string))) (fun i _=>c.ifs.length - (RowKit.intOf i).toNat)
 case atStart=>exact⟨0, .slice none 0 0,by omega,rfl,Nat.le_of_eq HM1.out.symm,O1s,Hq (But.refl _ _ _),Hq (World.ownsRow_nil _ _ _ _)⟩
 case round=>
  obtain⟨k,v,hk,rfl,hzr,Or,HBT,HO⟩:=hrel
  have cc:=Or.out.r.bx.cell 6 rfl
  by_cases hlt:k<c.ifs.length
  ·obtain⟨n,hnk⟩: ∃n,c.ifs[k]?=some n:=⟨_,List.getElem?_eq_getElem hlt⟩
   have HNR:=Hq hnk
   have HNF:=Hq (HFF.out.ifs n (List.mem_of_getElem? hnk))
   obtain⟨gi,oi,rfl,hgi,_⟩:=cqU HC.out.hifs k n hnk
   obtain⟨s5,hs5⟩: ∃s,dqW c.pool n=s:=⟨_,rfl⟩
   obtain⟨b5,hb5⟩: ∃s,(aqE c.pool n).isSome=s:=⟨_,rfl⟩
   have HS5:=Hq (show(aqE c.pool n).getD ⟨#[]⟩=s5 from hs5)
   have HB5:=Hq hb5
   have HX:=Hq (show((c.ifs.take (k+1)).map (dqW c.pool)).map Value.string=((c.ifs.take k).map (dqW c.pool)).map Value.string++ [.string s5] by rw [List.take_add_one,hnk];simp [hs5])
   have SK:=Hq (show∀W,RO w ok c A1 k1 (.slice (some ⟨gi,oi,none⟩) c.ifs.length k2) (.slice A3 c.flds.length k3) (.slice A4 c.mths.length k4) G [.string n1, .string n2, .int .i64 c.acc,v, .slice none 0 0, .slice none 0 0] W→(fun w'=>w'.cell? ⟨w.heap.size,0,none⟩=some (.int .i64 c.minor)∧w'.cell? ⟨w.heap.size,1,none⟩=some (.int .i64 c.major)∧w'.cell? ⟨w.heap.size,2,none⟩=some (.slice A1 c.pool.length k1)∧w'.cell? ⟨w.heap.size,3,none⟩=some (.int .i64 c.acc)∧w'.cell? ⟨w.heap.size,4,none⟩=some (.int .i64 c.this)∧w'.cell? ⟨w.heap.size,5,none⟩=some (.int .i64 c.sup)∧w'.cell? ⟨w.heap.size,6,none⟩=some (.slice (some ⟨gi,oi,none⟩) c.ifs.length k2)∧w'.cell? ⟨w.heap.size,7,none⟩=some (.slice A3 c.flds.length k3)∧w'.cell? ⟨w.heap.size,8,none⟩=some (.slice A4 c.mths.length k4)∧w'.cell? ⟨gi,oi+k,none⟩=some (.int .i64 n)) W from fun W hW=>by
    obtain⟨_,_,e,_,dn⟩:=cqU (HC.out.hifs.keep (aqC.of_below hW.r.bel)) k n HNR.out
    cases e
    obtain⟨d0,d1,d2,d3,d4,d5,d6,d7,d8⟩:=hW.r.bx.nine
    exact⟨d0,d1,d2,d3,d4,d5,d6,d7,d8,dn⟩)
   clear hnk hs5 hb5
   have RD:=Hq (Or.out.below ((Below.refl wr.heap.size wr).drew))
   go_wp2_with fail
   clear cc
   go_region_held2 (fun w'=>w'.cell? ⟨w.heap.size,0,none⟩=some (.int .i64 c.minor)∧w'.cell? ⟨w.heap.size,1,none⟩=some (.int .i64 c.major)∧w'.cell? ⟨w.heap.size,2,none⟩=some (.slice A1 c.pool.length k1)∧w'.cell? ⟨w.heap.size,3,none⟩=some (.int .i64 c.acc)∧w'.cell? ⟨w.heap.size,4,none⟩=some (.int .i64 c.this)∧w'.cell? ⟨w.heap.size,5,none⟩=some (.int .i64 c.sup)∧w'.cell? ⟨w.heap.size,6,none⟩=some (.slice (some ⟨gi,oi,none⟩) c.ifs.length k2)∧w'.cell? ⟨w.heap.size,7,none⟩=some (.slice A3 c.flds.length k3)∧w'.cell? ⟨w.heap.size,8,none⟩=some (.slice A4 c.mths.length k4)∧w'.cell? ⟨gi,oi+k,none⟩=some (.int .i64 n)) (first|exact SK.out _ RD.out|exact SK.out _ R5.out) (first
    | (go_simp;go_at_call 89
       refine(eq7 RD.out.r HNF.out HF1.out).mono ?_
       rintro e w5 ⟨rfl,hb⟩
       simp only [cqh]
       rw [HS5.out,HB5.out]
       have R5:=Hq (RD.out.below hb)
       have D5:=Hq (((Below.refl wr.heap.size wr).drew).trans hb)
       clear hb))
   have t3:=R5.out.t.cell 3 rfl
   have hz5:=D5.out.size
   have HO5:=Hq (aqj HO.out fun q hq=>D5.out.block q (HO.out.lt q hq).2)
   go_wp2_with (at_builtin;refine bqi rfl _ _ 36 rfl Tryz.underlying36 cqK rfl Om M1 rfl (HO5.out.alloc _) rfl rfl (fun _=> ⟨_,rfl,aqm _ _ _ _ Sp⟩) Oc Om Mz Om Sd ?_;intro g6 c6 w6 ho6 hg6 hb6 hgg6 hlt6;refine aqa ?_)
   have D6:=Hq (((D5.out.mono (B':=M1) hzr).alloc Om (.cells #[.string s5] 9)).trans hb6)
   have O6:=Hq (Or.out.low BK.out (D6.out.mono (B':=G+1) Om))
   have HO6:=Hq (aqF ho6 rfl HX.out.symm)
   clear ho6 hg6 hb6 hgg6 t3
   have t3:=O6.out.t.cell 3 rfl
   have f3:=O6.out.t.frozen 3
   refine aqb ?_
   go_wp2_with fail
   go_roundw
   case rel=>
    refine⟨k+1,_,by omega,by go_num,by have:=D6.out.size;simp;omega,Hq (O6.out.set BK.out 3 _),Hq (HBT.out.trans ((But.of_below D6.out).set ⟨G,3,none⟩ (.inl Sp) _)),Hq (bqQ HO6.out ?_ _)⟩
    have:=(HO6.out.lt g6 rfl).1
    show g6≠G
    omega
   case measure=>simp [RowKit.intOf];omega
  have hke:k=c.ifs.length:=by omega
  subst hke
  have HR1:=HO
  go_wp2_with fail
  obtain⟨v1,hv1⟩: ∃u,u=v:=⟨_,rfl⟩
  subst hv1
  clear HBT HO hk
  clear cc hlt
  have O2s:=Or
  clear Or
  obtain⟨wx2,hwx⟩: ∃u,u=wr:=⟨_,rfl⟩
  subst hwx
  obtain⟨M2,hM2⟩: ∃M,wx2.heap.size=M:=⟨_,rfl⟩
  have hGM2:G<M2:=by have:=O2s.out.t.lt;omega
  have HM2:=Hq hM2
  clear hM2
  go_loopw [9] (fun i wr=> ∃(k:Nat) (v:Value),k≤c.flds.length∧i= .int .i64 k∧M2≤wr.heap.size∧Hid (RO w ok c A1 k1 (.slice A2 c.ifs.length k2) (.slice A3 c.flds.length k3) (.slice A4 c.mths.length k4) G [.string n1, .string n2, .int .i64 c.acc,v1,v, .slice none 0 0] wr)∧Hid (But M2 [G] wx2 wr)∧Hid (wr.ownsRow M2 52 5 v k (((c.flds.take k).map (mqw c.pool)).flatMap cqW.cells))) (fun i _=>c.flds.length - (RowKit.intOf i).toNat)
  case atStart=>exact⟨0, .slice none 0 0,by omega,rfl,Nat.le_of_eq HM2.out.symm,O2s,Hq (But.refl _ _ _),Hq (World.ownsRow_nil _ _ _ _)⟩
  case round=>
   obtain⟨k,v,hk,rfl,hzr,Or,HBT,HO⟩:=hrel
   have cc:=Or.out.r.bx.cell 7 rfl
   by_cases hlt:k<c.flds.length
   ·obtain⟨x,hx⟩: ∃x,c.flds[k]?=some x:=⟨_,List.getElem?_eq_getElem hlt⟩
    have HFX:=Hq (HFF.out.flds x (List.mem_of_getElem? hx))
    obtain⟨b,off,rfl,hbl,p0,p1,p2,p3⟩:=cqv (HC.out.keep (aqC.of_below Or.out.r.bel)).hflds k x hx
    obtain⟨bv,hbv⟩: ∃v,(x.value !=0)=v:=⟨_,rfl⟩
    obtain⟨nm,hnm⟩: ∃s,fqi c.pool x.name=s:=⟨_,rfl⟩
    obtain⟨ds,hds⟩: ∃s,fqi c.pool x.desc=s:=⟨_,rfl⟩
    obtain⟨o1,ho1⟩: ∃s,(aqf c.pool x.name).isSome=s:=⟨_,rfl⟩
    obtain⟨o2,ho2⟩: ∃s,(aqf c.pool x.desc).isSome=s:=⟨_,rfl⟩
    have HNM:=Hq (show(aqf c.pool x.name).getD ⟨#[]⟩=nm from hnm)
    have HDS:=Hq (show(aqf c.pool x.desc).getD ⟨#[]⟩=ds from hds)
    have HQ1:=Hq ho1
    have HQ2:=Hq ho2
    obtain⟨nu,hnu⟩: ∃v,(mqw c.pool x).value=v:=⟨_,rfl⟩
    have HX:=Hq (show((c.flds.take (k+1)).map (mqw c.pool)).flatMap cqW.cells=((c.flds.take k).map (mqw c.pool)).flatMap cqW.cells++ [.int .i64 x.acc, .string nm, .string ds, .bool bv, .int .i64 nu] by
     rw [List.take_add_one,hx]
     simp only [Option.toList_some,List.map_append,List.map_cons,List.map_nil,List.flatMap_append,List.flatMap_cons,List.flatMap_nil,List.append_nil]
     rw [←hnu, ←hnm, ←hds, ←hbv]
     rfl)
    have HNU:=Hq (show((aqt c.pool x.value 3).getD aqY).num=nu from hnu)
    have HBV:=Hq hbv
    have hn0:x.value=0→nu=0:=fun h=>by rw [←hnu];unfold mqw;rw [h];rfl
    obtain⟨x1,x2,x3,x4,x5,x6,x7,x8,x9,x10,x11,x12⟩:=far b wr.heap.size hbl
    have D2:=Hq (((Below.refl wr.heap.size wr).alloc Nr (.cells #[.int .i64 x.acc, .int .i64 x.name, .int .i64 x.desc, .int .i64 x.value] 119)).alloc Sp (.cells #[.int .i64 x.acc, .string ⟨#[]⟩, .string ⟨#[]⟩, .bool bv, .int .i64 0] 52))
    have F2:=Hq ((aql wr [.int .i64 x.acc, .int .i64 x.name, .int .i64 x.desc, .int .i64 x.value] 119).below (Rf9.alloc Nr (.cells #[.int .i64 x.acc, .string ⟨#[]⟩, .string ⟨#[]⟩, .bool bv, .int .i64 0] 52)) Sp)
    have M2:=Hq (show Bx ((wr.alloc (.cells #[.int .i64 x.acc, .int .i64 x.name, .int .i64 x.desc, .int .i64 x.value] 119)).alloc (.cells #[.int .i64 x.acc, .string ⟨#[]⟩, .string ⟨#[]⟩, .bool bv, .int .i64 0] 52)) (wr.heap.size+1) [.int .i64 x.acc, .string ⟨#[]⟩, .string ⟨#[]⟩, .bool bv, .int .i64 0] 52 from aqh _ _ _ _ Sp)
    have hlw:=Or.out.r.lt
    have hlG:=Or.out.t.lt
    have hlo:=Or.out.lo
    clear hx hnm hds ho1 ho2 hnu
    have SB2:=Hq (Or.out.r.below D2.out)
    go_wp2_with (first
     | (refine wpList_load_row rfl _ _ rfl w.heap.size rfl _ _ _ _ SB2.out.bx Tryz.underlying58 rfl Kq9 ?_)
     | (go_at_call 90;refine aqa ?_))
    refine aqb ?_
    refine(cqV SB2.out HFX.out.1).mono ?_
    simp only [cqh]
    rw [HNM.out,HQ1.out]
    rintro e w6 ⟨rfl,hb⟩
    have D6:=Hq (D2.out.trans (hb.mono Sd))
    have F6:=Hq (F2.out.below hb Sd)
    have M6:=Hq (M2.out.below hb Sp)
    have hz6:=hb.size
    simp only [World.size_alloc] at hz6
    have m1:=M6.out.cell 1 rfl
    have g1:=M6.out.frozen 1
    have e2:=(F6.out.set_other ⟨wr.heap.size+1,1,none⟩ (.string nm) Sp).cell 2 rfl
    have D7:=Hq (D6.out.setCell (p:=⟨wr.heap.size+1,1,none⟩) Sp (.string nm))
    have SB7:=Hq (Or.out.r.below D7.out)
    clear hb D2 F2 M2 SB2 p0 p1 p2 p3
    go_wp2_with (first
     | (refine wpList_load_row rfl _ _ rfl w.heap.size rfl _ _ _ _ SB7.out.bx Tryz.underlying58 rfl Kq9 ?_)
     | (go_at_call 90;refine aqa ?_))
    refine aqb ?_
    refine(cqV SB7.out HFX.out.2.1).mono ?_
    simp only [cqh]
    rw [HDS.out,HQ2.out]
    rintro e w8 ⟨rfl,hb⟩
    have D8:=Hq (D7.out.trans (hb.mono Sd))
    have F8:=Hq ((F6.out.set_other ⟨wr.heap.size+1,1,none⟩ (.string nm) Sp).below hb Sd)
    have M8:=Hq (show Bx w8 (wr.heap.size+1) [.int .i64 x.acc, .string nm, .string ⟨#[]⟩, .bool bv, .int .i64 0] 52 from(M6.out.set 1 (.string nm)).below hb Sd)
    have hz8:=hb.size
    simp only [World.size_setCell] at hz8
    have M9:=Hq (show Bx (w8.setCell ⟨wr.heap.size+1,2,none⟩ (.string ds)) (wr.heap.size+1) [.int .i64 x.acc, .string nm, .string ds, .bool bv, .int .i64 0] 52 from M8.out.set 2 (.string ds))
    have F9:=Hq (F8.out.set_other ⟨wr.heap.size+1,2,none⟩ (.string ds) Sp)
    have D9:=Hq (D8.out.setCell (p:=⟨wr.heap.size+1,2,none⟩) Sp (.string ds))
    have hz9:wr.heap.size+2≤(w8.setCell ⟨wr.heap.size+1,2,none⟩ (.string ds)).heap.size:=by simp;omega
    have m2:=M8.out.cell 2 rfl
    have g2:=M8.out.frozen 2
    clear hb D6 D7 SB7 F6 M6 m1 g1 e2
    have m3:=M9.out.cell 3 rfl
    cases bv
    case false=>
     have hx0:x.value=0:=by simpa using HBV.out
     obtain rfl:=hn0 hx0
     go_upto_region 22 with fail
     generalize w8.setCell ⟨wr.heap.size+1,2,none⟩ (.string ds)=w9 at*
     clear m2 g2 m3 D8 F8 M8
     have SB:=Hq (Or.out.low BK.out (D9.out.mono (B':=G+1) Om))
     have t4:=SB.out.t.cell 4 rfl
     have HO9:=Hq (aqj HO.out fun q hq=>D9.out.block q (HO.out.lt q hq).2)
     have y0:=M9.out.cell 0 rfl
     have y1:=M9.out.cell 1 rfl
     have y2:=M9.out.cell 2 rfl
     have y3:=M9.out.cell 3 rfl
     have y4:=M9.out.cell 4 rfl
     go_wp2_with (at_builtin;refine bqi rfl _ _ 37 rfl Tryz.underlying37 cqo rfl Om M2 rfl (HO9.out.alloc _) rfl rfl (fun _=> ⟨_,rfl,aqm _ _ _ _ Sp⟩) Oc Om Mz Om Sd ?_;intro g6 c6 wa ho6 hg6 hb6 hgg6 hlt6;refine aqa ?_)
     have Da:=Hq (((D9.out.mono (B':=M2) hzr).alloc Om (.cells #[.int .i64 x.acc, .string nm, .string ds, .bool false, .int .i64 0] 52)).trans hb6)
     have Oa:=Hq (Or.out.low BK.out (Da.out.mono (B':=G+1) Om))
     have HOa:=Hq (aqF ho6 rfl HX.out.symm)
     clear ho6 hg6 hb6 hgg6 t4 y0 y1 y2 y3 y4
     have t4:=Oa.out.t.cell 4 rfl
     have f4:=Oa.out.t.frozen 4
     refine aqb ?_
     go_wp2_with fail
     go_roundw
     case rel=>
      refine⟨k+1,_,by omega,by go_num,by have:=Da.out.size;simp;omega,Hq (Oa.out.set BK.out 4 _),Hq (HBT.out.trans ((But.of_below Da.out).set ⟨G,4,none⟩ (.inl Sp) _)),Hq (bqQ HOa.out ?_ _)⟩
      have:=(HOa.out.lt g6 rfl).1
      show g6≠G
      omega
     case measure=>simp [RowKit.intOf];omega
    case true=>
     have e3:=F9.out.cell 3 rfl
     have SB9:=Hq (Or.out.r.below D9.out)
     go_wp2_with (first
      | (refine wpList_load_row rfl _ _ rfl w.heap.size rfl _ _ _ _ SB9.out.bx Tryz.underlying58 rfl Kq9 ?_)
      | (go_at_call 91;refine aqa ?_))
     refine aqb ?_
     refine(fq5 SB9.out ⟨HFX.out.2.2.1,HFX.out.2.2.2⟩).mono ?_
     simp only [bqc,koV]
     obtain⟨kq,hkq⟩: ∃kq,(aqt c.pool x.value 3).getD aqY=kq:=⟨_,rfl⟩
     obtain⟨o3,ho3⟩: ∃s,(aqt c.pool x.value 3).isSome=s:=⟨_,rfl⟩
     rw [hkq,ho3]
     obtain rfl:kq.num=nu:=by rw [←hkq];exact HNU.out
     clear hkq ho3
     rintro e wb ⟨rfl,hb⟩
     have Db:=Hq ((D9.out.trans (hb.mono Sd)).alloc (by have:=hb.size;simp at this;omega) (.cells #[.int .i64 kq.tag, .string kq.text, .int .i64 kq.num, .int .i64 kq.a, .int .i64 kq.b] 78))
     have Mb:=Hq ((M9.out.below hb Sd).below ((Below.refl wb.heap.size wb).alloc Nr (.cells #[.int .i64 kq.tag, .string kq.text, .int .i64 kq.num, .int .i64 kq.a, .int .i64 kq.b] 78)) (by have:=hb.size;simp at this;omega))
     have hzb:=hb.size
     simp only [World.size_setCell] at hzb
     have mb4:=Mb.out.cell 4 rfl
     have gb4:=Mb.out.frozen 4
     go_upto_region 22 with fail
     clear hb D8 F8 M8 m2 g2 m3 e3 SB9
     have M9':=Hq (show Bx ((wb.alloc (.cells #[.int .i64 kq.tag, .string kq.text, .int .i64 kq.num, .int .i64 kq.a, .int .i64 kq.b] 78)).setCell ⟨wr.heap.size+1,4,none⟩ (.int .i64 kq.num)) (wr.heap.size+1) [.int .i64 x.acc, .string nm, .string ds, .bool true, .int .i64 kq.num] 52 from Mb.out.set 4 _)
     have D9':=Hq (Db.out.setCell (p:=⟨wr.heap.size+1,4,none⟩) Sp (.int .i64 kq.num))
     have hz9':wr.heap.size+2≤((wb.alloc (.cells #[.int .i64 kq.tag, .string kq.text, .int .i64 kq.num, .int .i64 kq.a, .int .i64 kq.b] 78)).setCell ⟨wr.heap.size+1,4,none⟩ (.int .i64 kq.num)).heap.size:=by simp;omega
     clear M9 D9 hz9 F9 Mb Db mb4 gb4
     generalize (wb.alloc (.cells #[.int .i64 kq.tag, .string kq.text, .int .i64 kq.num, .int .i64 kq.a, .int .i64 kq.b] 78)).setCell ⟨wr.heap.size+1,4,none⟩ (.int .i64 kq.num)=w9 at*
     have M9:=M9'
     have D9:=D9'
     have hz9:=hz9'
     clear M9' D9' hz9'
     have SB:=Hq (Or.out.low BK.out (D9.out.mono (B':=G+1) Om))
     have t4:=SB.out.t.cell 4 rfl
     have HO9:=Hq (aqj HO.out fun q hq=>D9.out.block q (HO.out.lt q hq).2)
     have y0:=M9.out.cell 0 rfl
     have y1:=M9.out.cell 1 rfl
     have y2:=M9.out.cell 2 rfl
     have y3:=M9.out.cell 3 rfl
     have y4:=M9.out.cell 4 rfl
     go_wp2_with (at_builtin;refine bqi rfl _ _ 37 rfl Tryz.underlying37 cqo rfl Om M2 rfl (HO9.out.alloc _) rfl rfl (fun _=> ⟨_,rfl,aqm _ _ _ _ Sp⟩) Oc Om Mz Om Sd ?_;intro g6 c6 wa ho6 hg6 hb6 hgg6 hlt6;refine aqa ?_)
     have Da:=Hq (((D9.out.mono (B':=M2) hzr).alloc Om (.cells #[.int .i64 x.acc, .string nm, .string ds, .bool true, .int .i64 kq.num] 52)).trans hb6)
     have Oa:=Hq (Or.out.low BK.out (Da.out.mono (B':=G+1) Om))
     have HOa:=Hq (aqF ho6 rfl HX.out.symm)
     clear ho6 hg6 hb6 hgg6 t4 y0 y1 y2 y3 y4
     have t4:=Oa.out.t.cell 4 rfl
     have f4:=Oa.out.t.frozen 4
     refine aqb ?_
     go_wp2_with fail
     go_roundw
     case rel=>
      refine⟨k+1,_,by omega,by go_num,by have:=Da.out.size;simp;omega,Hq (Oa.out.set BK.out 4 _),Hq (HBT.out.trans ((But.of_below Da.out).set ⟨G,4,none⟩ (.inl Sp) _)),Hq (bqQ HOa.out ?_ _)⟩
      have:=(HOa.out.lt g6 rfl).1
      show g6≠G
      omega
     case measure=>simp [RowKit.intOf];omega
   have hke:k=c.flds.length:=by omega
   subst hke
   have HR2:=HO
   go_wp2_with fail
   have HR1n:=Hq (aqj HR1.out fun g hg=>HBT.out.block g (by have:=(HR1.out.lt g hg).2;have:=HM2.out;omega) (by have:=(HR1.out.lt g hg).1;simp;omega))
   clear HR1
   have HR1:=HR1n
   clear HR1n
   obtain⟨v2,hv2⟩: ∃u,u=v:=⟨_,rfl⟩
   subst hv2
   clear HBT HO hk
   clear cc hlt
   have O3s:=Or
   clear Or
   obtain⟨wx3,hwx⟩: ∃u,u=wr:=⟨_,rfl⟩
   subst hwx
   obtain⟨M3,hM3⟩: ∃M,wx3.heap.size=M:=⟨_,rfl⟩
   have hGM3:G<M3:=by have:=O3s.out.t.lt;omega
   have HM3:=Hq hM3
   clear hM3
   go_loopw [14] (fun i wr=> ∃(k:Nat) (v:Value),k≤c.mths.length∧i= .int .i64 k∧M3≤wr.heap.size∧Hid (RO w ok c A1 k1 (.slice A2 c.ifs.length k2) (.slice A3 c.flds.length k3) (.slice A4 c.mths.length k4) G [.string n1, .string n2, .int .i64 c.acc,v1,v2,v] wr)∧Hid (But M3 [G] wx3 wr)∧Hid (wr.ownsRow M3 52 5 v k (((c.mths.take k).map (mqT c.pool)).flatMap cqW.cells))) (fun i _=>c.mths.length - (RowKit.intOf i).toNat)
   case atStart=>exact⟨0, .slice none 0 0,by omega,rfl,Nat.le_of_eq HM3.out.symm,O3s,Hq (But.refl _ _ _),Hq (World.ownsRow_nil _ _ _ _)⟩
   case round=>
    obtain⟨k,v,hk,rfl,hzr,Or,HBT,HO⟩:=hrel
    have cc:=Or.out.r.bx.cell 8 rfl
    by_cases hlt:k<c.mths.length
    ·obtain⟨ms',e1,e2,e3⟩:=(HC.out.keep (aqC.of_below Or.out.r.bel)).hmths
     have hml':ms'.length=c.mths.length:=by rw [←e1,List.length_map]
     obtain⟨x,cv,tv,hx'⟩: ∃x cv tv,ms'[k]?=some (x,cv,tv):=⟨_,_,_,List.getElem?_eq_getElem Om⟩
     have hx:c.mths[k]?=some x:=by rw [←e1,List.getElem?_map,hx'];rfl
     have HFX:=Hq (HFF.out.mths x (List.mem_of_getElem? hx))
     obtain⟨b,off,rfl,hbl,p0,p1,p2,p3,p4,p5,p6,p7⟩:=dqf e2 hml' k x cv tv hx'
     have hME:=e3 (x,cv,tv) (List.mem_of_getElem? hx')
     obtain⟨Ac,kc,hcv,_⟩:=id hME.hcode
     obtain⟨At,kt,htv,_⟩:=id hME.htraps
     simp only at hcv htv
     subst hcv
     subst htv
     clear hx' e1 e2 e3 hml' hME
     obtain⟨nm,hnm⟩: ∃s,fqi c.pool x.name=s:=⟨_,rfl⟩
     obtain⟨ds,hds⟩: ∃s,fqi c.pool x.desc=s:=⟨_,rfl⟩
     obtain⟨o1,ho1⟩: ∃s,(aqf c.pool x.name).isSome=s:=⟨_,rfl⟩
     obtain⟨o2,ho2⟩: ∃s,(aqf c.pool x.desc).isSome=s:=⟨_,rfl⟩
     have HNM:=Hq (show(aqf c.pool x.name).getD ⟨#[]⟩=nm from hnm)
     have HDS:=Hq (show(aqf c.pool x.desc).getD ⟨#[]⟩=ds from hds)
     have HQ1:=Hq ho1
     have HQ2:=Hq ho2
     obtain⟨nu,hnu⟩: ∃v,(mqT c.pool x).value=v:=⟨_,rfl⟩
     have HX:=Hq (show((c.mths.take (k+1)).map (mqT c.pool)).flatMap cqW.cells=((c.mths.take k).map (mqT c.pool)).flatMap cqW.cells++ [.int .i64 x.acc, .string nm, .string ds, .bool x.has, .int .i64 nu] by
      rw [List.take_add_one,hx]
      simp only [Option.toList_some,List.map_append,List.map_cons,List.map_nil,List.flatMap_append,List.flatMap_cons,List.flatMap_nil,List.append_nil]
      rw [←hnu, ←hnm, ←hds]
      rfl)
     obtain rfl:nu=0:=hnu.symm
     obtain⟨x1,x2,x3,x4,x5,x6,x7,x8,x9,x10,x11,x12⟩:=far b wr.heap.size hbl
     have D2:=Hq (((Below.refl wr.heap.size wr).alloc Nr (.cells #[.int .i64 x.acc, .int .i64 x.name, .int .i64 x.desc, .bool x.has, .int .i64 x.stack, .int .i64 x.locals, .slice Ac x.code.length kc, .slice At x.traps.length kt] 91)).alloc Sp (.cells #[.int .i64 x.acc, .string ⟨#[]⟩, .string ⟨#[]⟩, .bool x.has, .int .i64 0] 52))
     have F2:=Hq ((aql wr [.int .i64 x.acc, .int .i64 x.name, .int .i64 x.desc, .bool x.has, .int .i64 x.stack, .int .i64 x.locals, .slice Ac x.code.length kc, .slice At x.traps.length kt] 91).below (Rf9.alloc Nr (.cells #[.int .i64 x.acc, .string ⟨#[]⟩, .string ⟨#[]⟩, .bool x.has, .int .i64 0] 52)) Sp)
     have M2:=Hq (show Bx ((wr.alloc (.cells #[.int .i64 x.acc, .int .i64 x.name, .int .i64 x.desc, .bool x.has, .int .i64 x.stack, .int .i64 x.locals, .slice Ac x.code.length kc, .slice At x.traps.length kt] 91)).alloc (.cells #[.int .i64 x.acc, .string ⟨#[]⟩, .string ⟨#[]⟩, .bool x.has, .int .i64 0] 52)) (wr.heap.size+1) [.int .i64 x.acc, .string ⟨#[]⟩, .string ⟨#[]⟩, .bool x.has, .int .i64 0] 52 from aqh _ _ _ _ Sp)
     have hlw:=Or.out.r.lt
     have hlG:=Or.out.t.lt
     have hlo:=Or.out.lo
     clear hx hnm hds ho1 ho2 hnu
     have SB2:=Hq (Or.out.r.below D2.out)
     go_wp2_with (first
      | (refine wpList_load_row rfl _ _ rfl w.heap.size rfl _ _ _ _ SB2.out.bx Tryz.underlying58 rfl Kq9 ?_)
      | (go_at_call 90;refine aqa ?_))
     refine aqb ?_
     refine(cqV SB2.out HFX.out.1).mono ?_
     simp only [cqh]
     rw [HNM.out,HQ1.out]
     rintro e w6 ⟨rfl,hb⟩
     have D6:=Hq (D2.out.trans (hb.mono Sd))
     have F6:=Hq (F2.out.below hb Sd)
     have M6:=Hq (M2.out.below hb Sp)
     have hz6:=hb.size
     simp only [World.size_alloc] at hz6
     have m1:=M6.out.cell 1 rfl
     have g1:=M6.out.frozen 1
     have e2:=(F6.out.set_other ⟨wr.heap.size+1,1,none⟩ (.string nm) Sp).cell 2 rfl
     have D7:=Hq (D6.out.setCell (p:=⟨wr.heap.size+1,1,none⟩) Sp (.string nm))
     have SB7:=Hq (Or.out.r.below D7.out)
     clear hb D2 F2 M2 SB2 p0 p1 p2 p3 p4 p5 p6 p7
     go_wp2_with (first
      | (refine wpList_load_row rfl _ _ rfl w.heap.size rfl _ _ _ _ SB7.out.bx Tryz.underlying58 rfl Kq9 ?_)
      | (go_at_call 90;refine aqa ?_))
     refine aqb ?_
     refine(cqV SB7.out HFX.out.2.1).mono ?_
     simp only [cqh]
     rw [HDS.out,HQ2.out]
     rintro e w8 ⟨rfl,hb⟩
     have D8:=Hq (D7.out.trans (hb.mono Sd))
     have F8:=Hq ((F6.out.set_other ⟨wr.heap.size+1,1,none⟩ (.string nm) Sp).below hb Sd)
     have M8:=Hq (show Bx w8 (wr.heap.size+1) [.int .i64 x.acc, .string nm, .string ⟨#[]⟩, .bool x.has, .int .i64 0] 52 from(M6.out.set 1 (.string nm)).below hb Sd)
     have hz8:=hb.size
     simp only [World.size_setCell] at hz8
     have M9:=Hq (show Bx (w8.setCell ⟨wr.heap.size+1,2,none⟩ (.string ds)) (wr.heap.size+1) [.int .i64 x.acc, .string nm, .string ds, .bool x.has, .int .i64 0] 52 from M8.out.set 2 (.string ds))
     have F9:=Hq (F8.out.set_other ⟨wr.heap.size+1,2,none⟩ (.string ds) Sp)
     have D9:=Hq (D8.out.setCell (p:=⟨wr.heap.size+1,2,none⟩) Sp (.string ds))
     have hz9:wr.heap.size+2≤(w8.setCell ⟨wr.heap.size+1,2,none⟩ (.string ds)).heap.size:=by simp;omega
     have m2:=M8.out.cell 2 rfl
     have g2:=M8.out.frozen 2
     clear hb D6 D7 SB7 F6 M6 m1 g1 e2
     go_upto_region 30 with fail
     generalize w8.setCell ⟨wr.heap.size+1,2,none⟩ (.string ds)=w9 at*
     clear m2 g2 D8 F8 M8
     have SB:=Hq (Or.out.low BK.out (D9.out.mono (B':=G+1) Om))
     have t4:=SB.out.t.cell 5 rfl
     have HO9:=Hq (aqj HO.out fun q hq=>D9.out.block q (HO.out.lt q hq).2)
     have y0:=M9.out.cell 0 rfl
     have y1:=M9.out.cell 1 rfl
     have y2:=M9.out.cell 2 rfl
     have y3:=M9.out.cell 3 rfl
     have y4:=M9.out.cell 4 rfl
     go_wp2_with (at_builtin;refine bqi rfl _ _ 37 rfl Tryz.underlying37 cqo rfl Om M3 rfl (HO9.out.alloc _) rfl rfl (fun _=> ⟨_,rfl,aqm _ _ _ _ Sp⟩) Oc Om Mz Om Sd ?_;intro g6 c6 wa ho6 hg6 hb6 hgg6 hlt6;refine aqa ?_)
     have Da:=Hq (((D9.out.mono (B':=M3) hzr).alloc Om (.cells #[.int .i64 x.acc, .string nm, .string ds, .bool x.has, .int .i64 0] 52)).trans hb6)
     have Oa:=Hq (Or.out.low BK.out (Da.out.mono (B':=G+1) Om))
     have HOa:=Hq (aqF ho6 rfl HX.out.symm)
     clear ho6 hg6 hb6 hgg6 t4 y0 y1 y2 y3 y4
     have t4:=Oa.out.t.cell 5 rfl
     have f4:=Oa.out.t.frozen 5
     refine aqb ?_
     go_wp2_with fail
     go_roundw
     case rel=>
      refine⟨k+1,_,by omega,by go_num,by have:=Da.out.size;simp;omega,Hq (Oa.out.set BK.out 5 _),Hq (HBT.out.trans ((But.of_below Da.out).set ⟨G,5,none⟩ (.inl Sp) _)),Hq (bqQ HOa.out ?_ _)⟩
      have:=(HOa.out.lt g6 rfl).1
      show g6≠G
      omega
     case measure=>simp [RowKit.intOf];omega
    have hke:k=c.mths.length:=by omega
    subst hke
    have HR3:=HO
    have HR1n:=Hq (aqj HR1.out fun g hg=>HBT.out.block g (by have:=(HR1.out.lt g hg).2;have:=HM3.out;omega) (by have:=(HR1.out.lt g hg).1;simp;omega))
    clear HR1
    have HR1:=HR1n
    clear HR1n
    have HR2n:=Hq (aqj HR2.out fun g hg=>HBT.out.block g (by have:=(HR2.out.lt g hg).2;have:=HM3.out;omega) (by have:=(HR2.out.lt g hg).1;simp;omega))
    clear HR2
    have HR2:=HR2n
    clear HR2n
    obtain⟨v3,hv3⟩: ∃u,u=v:=⟨_,rfl⟩
    subst hv3
    clear HBT HO hk
    have O4s:=Or
    clear Or
    obtain⟨wx4,hwx⟩: ∃u,u=wr:=⟨_,rfl⟩
    subst hwx
    obtain⟨Aa,ca,rfl,_⟩:=aqd (aqs HR1.out (fun _=>True) Om z2 (fun _ _=>trivial))
    obtain⟨Ab,cb,rfl,_⟩:=aqd (aqs HR2.out (fun _=>True) Om z3 (fun _ _=>trivial))
    obtain⟨Ac,cc',rfl,_⟩:=aqd (aqs HR3.out (fun _=>True) Om z4 (fun _ _=>trivial))
    have y0:=O4s.out.t.cell 0 rfl
    have y1:=O4s.out.t.cell 1 rfl
    have y2:=O4s.out.t.cell 2 rfl
    have y3:=O4s.out.t.cell 3 rfl
    have y4:=O4s.out.t.cell 4 rfl
    have y5:=O4s.out.t.cell 5 rfl
    go_wp2_with (refine wpList_store_row rfl _ _ _ rfl (w.heap.size+1) _ rfl rfl _ _ O4s.out.z Kq9 rfl Oc ?_)
    have hle:=O4s.out.r.lt
    refine bodyPost_ret (bqy rfl rfl rfl (O4s.out.z.row _) rfl rfl Kq9) rfl ?_
    refine⟨O4s.out.r.bel.trans ⟨rfl,rfl,rfl,by simp,fun k hk=>setRow_other _ _ _ _ Om⟩,_,_,_,rfl, ?_⟩
    have hk:aqC (fun g=>G<g) wx4 (wx4.setRow (w.heap.size+1) #[.string n1, .string n2, .int .i64 c.acc, .slice Aa c.ifs.length ca, .slice Ab c.flds.length cb, .slice Ac c.mths.length cc']):=⟨by simp,fun g hg ho o=>World.cell?_of_block (w:=wx4) (setRow_other _ _ _ _ (by have h1:=O4s.out.lo;have h2:G<g:=ho;show g≠w.heap.size+1;omega))⟩
    have hlo:=O4s.out.lo
    refine dqX.mono (ok:=fun g=>G<g) (dqX.keep ⟨?_, ?_, ?_⟩ hk) (fun g _ hg=>by omega)
    ·have:=aqs HR1.out (fun g=>G<g) Om z2 (fun g hg=>by have:=(HR1.out.lt g hg).1;omega)
     rw [List.take_length] at this
     simpa using this
    ·have:=aqs HR2.out (fun g=>G<g) Om z3 (fun g hg=>by have:=(HR2.out.lt g hg).1;omega)
     rw [List.take_length] at this
     simpa using this
    have:=aqs HR3.out (fun g=>G<g) Om z4 (fun g hg=>by have:=(HR3.out.lt g hg).1;omega)
    rw [List.take_length] at this
    simpa using this
end Go.Proofs.YtdbniocnjhfhdaaGreatDoor
