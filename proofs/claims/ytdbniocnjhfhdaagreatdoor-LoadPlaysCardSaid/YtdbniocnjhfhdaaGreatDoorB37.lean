/- Part 37 of what the laws rest on: walks. Conditions: those that each theorem names. -/
import Derived.Test.YtdbniocnjhfhdaaGreatDoorB36
set_option linter.unusedSimpArgs false
set_option linter.unusedVariables false
set_option maxRecDepth 100000
set_option maxHeartbeats 1000000
namespace Go.Proofs.YtdbniocnjhfhdaaGreatDoor
open Go Go.RowKit Lib Go.Maps
def mql (M:Nat) (o:Value) (us:List TyV) (w:World):Prop:= ∀t∈us,iqI w (fun g=>M≤g∧o.ownBlock≠some g) t∧w.ownsRow M 52 5 t.mths t.ml.length t.mCells
theorem mql.next {M n k c g3:Nat} {o:Value} {us:List TyV} {t:TyV} {xs:List Value} {w wa wz:World} (h:mql M o us w) (hO:w.ownsRow M 39 6 o k xs) (hb:Below w.heap.size w wa) (hg:wa.grownBy wz o.ownBlock) (hgg:o.ownBlock=some g3∨g3=wa.heap.size)
  (ht:iqI wa (fun g=>w.heap.size≤g) t) (hm:wa.ownsRow w.heap.size 52 5 t.mths t.ml.length t.mCells) (hM:M≤w.heap.size):mql M (.slice (some ⟨g3,0,none⟩) n c) (us++ [t]) wz:=by
 have hs:=hb.size
 have hk:aqC (fun g=> (M≤g∧o.ownBlock≠some g)∧g<wa.heap.size) wa wz:=⟨hg.size,fun g hgl hok off=>World.cell?_of_block (w:=wa) (hg.block g hgl (fun e=>hok.1.2 e.symm))⟩
 have hon: ∀g,o.ownBlock=some g→g<w.heap.size:=fun g hg=> (hO.lt g hg).2
 have last: ∀u:TyV,iqI wa (fun g=>M≤g∧o.ownBlock≠some g) u∧wa.ownsRow M 52 5 u.mths u.ml.length u.mCells∧(∀g,u.mths.ownBlock=some g→o.ownBlock≠some g)→iqI wz (fun g=>M≤g∧(Value.slice (some ⟨g3,0,none⟩) n c).ownBlock≠some g) u∧wz.ownsRow M 52 5 u.mths u.ml.length u.mCells:=fun u hu=>by
  refine⟨iqI.keep (ok:=fun g=> (M≤g∧o.ownBlock≠some g)∧g<wa.heap.size) ⟨hu.1.1.mono fun g h1 h2=> ⟨h2,h1⟩,hu.1.2.1.mono fun g h1 h2=> ⟨h2,h1⟩,hu.1.2.2.mono fun g h1 h2=> ⟨h2,h1⟩⟩ hk fun g _ hok=> ⟨hok.1.1,fun e=> ?_⟩,aqj hu.2.1 fun q hq=>hg.block q (hu.2.1.lt q hq).2 fun e=>hu.2.2 q hq e.symm⟩
  have e':g3=g:=by simpa [Value.ownBlock] using e
  subst e'
  rcases hgg with hgg|hgg
  ·exact hok.1.2 hgg
  have:=hok.2
  omega
 intro u hu
 rcases List.mem_append.1 hu with hu|hu
 ·obtain⟨h1,h2⟩:=h u hu
  exact last u ⟨h1.keep (aqC.of_below hb) fun _ _ h=>h,aqj h2 fun q hq=>hb.block q (h2.lt q hq).2,fun g hg=>cq2 h2 hO Dd9 hg⟩
 obtain rfl:u=t:=by simpa using hu
 exact last u ⟨⟨ht.1.mono fun g _ hg=> ⟨by omega,fun e=>by have:=hon g e;omega⟩,ht.2.1.mono fun g _ hg=> ⟨by omega,fun e=>by have:=hon g e;omega⟩,ht.2.2.mono fun g _ hg=> ⟨by omega,fun e=>by have:=hon g e;omega⟩⟩,dqw hm hM,fun g hg e=>by have:=hon g e;have:=(hm.lt g hg).1;omega⟩
theorem eq9 {B:Nat} {L:bqp} {nd:Nat} {defs:List UInt8→Option (List UInt8)} {files:List UInt8→Option aqc} {ks going:List (List UInt8)} {ts:List TyV} {v:Value} {W:World} (h:LdG B L nd defs files ks going ts v W) (h0:0<ts.length) (hn:ts.length≤1000):
  Calls Tryz.prog 14 #[.pointer (some ⟨L.lb,0,none⟩)] W fun e w'=> ∃ov ts',e= .returned ov∧w'.ownsRow W.heap.size 39 6 ov ts.length (bqE ts')∧ts'.map TyV.key=ts.map TyV.key∧mql W.heap.size ov ts' w'∧Below W.heap.size W w':=by
 obtain⟨g,cap,rfl,hcap,hg,hcell⟩:=h.rows h0
 have C4:=h.c4
 have hlt:=h.lt
 have HC:=Hq hcell
 have HR:=Hq h.rd
 clear hcell h
 go_enter Tryz.func14,Tryz.ntmps14
 go_wp2_with fail
 go_loopw [3,11] (fun o i wr=> ∃(k:Nat) (us:List TyV),k≤ts.length∧i= .int .i64 k∧Hid (wr.ownsRow W.heap.size 39 6 o k (bqE us))∧Hid (us.map TyV.key=(ts.take k).map TyV.key)∧Hid (Below W.heap.size W wr)∧Hid (mql W.heap.size o us wr)) (fun _ i _=>ts.length - (RowKit.intOf i).toNat)
 case atStart=>exact⟨0, [],by omega,rfl,Hq (World.ownsRow_nil _ _ _ _),Hq rfl,Hq Rf9,Hq (by intro t ht;cases ht)⟩
 case round=>
  obtain⟨k,us,hk,rfl,HO,HU,HB,HIF⟩:=hrel
  by_cases hlt2:k<ts.length
  ·obtain⟨t,ht⟩: ∃t,ts[k]?=some t:=⟨_,List.getElem?_eq_getElem hlt2⟩
   have hrd:=HR.out t (List.mem_of_getElem? ht)
   have hown:=fun q (hq:q<6)=> (HB.out.cell (p:=⟨g,k*6+q,none⟩) hg).trans (HC.out k t ht q hq)
   have HT:=Hq ht
   obtain⟨nm,sp,ac,i1,f1,m1,il,fl,ml⟩:=t
   obtain⟨s1,s2,s3⟩:=hrd
   simp only [TyV.ifCells,TyV.fCells,TyV.mCells] at s1 s2 s3
   obtain⟨n1,hn1⟩: ∃n,il.length=n:=⟨_,rfl⟩
   obtain⟨n2,hn2⟩: ∃n,fl.length=n:=⟨_,rfl⟩
   obtain⟨n3,hn3⟩: ∃n,ml.length=n:=⟨_,rfl⟩
   obtain⟨cs1,hcs1⟩: ∃cs:List Value,il.map (fun s=>Value.string ⟨s.toArray⟩)=cs:=⟨_,rfl⟩
   obtain⟨cs2,hcs2⟩: ∃cs:List Value,fl.flatMap cqW.cells=cs:=⟨_,rfl⟩
   obtain⟨cs3,hcs3⟩: ∃cs:List Value,ml.flatMap cqW.cells=cs:=⟨_,rfl⟩
   have o1: ∀u∈cs1,u.oneCell'=true:=by rw [←hcs1];intro u hu;obtain⟨x,_,rfl⟩:=List.mem_map.1 hu;rfl
   have o2: ∀u∈cs2,u.oneCell'=true:=by rw [←hcs2];exact hqv fl
   have o3: ∀u∈cs3,u.oneCell'=true:=by rw [←hcs3];exact hqv ml
   rw [hcs1,hn1] at s1
   rw [hcs2,hn2] at s2
   rw [hcs3,hn3] at s3
   have HNN:=Hq (show(il.length=n1∧fl.length=n2∧ml.length=n3)∧il.map (fun s=>Value.string ⟨s.toArray⟩)=cs1∧fl.flatMap cqW.cells=cs2∧ml.flatMap cqW.cells=cs3 from⟨⟨hn1,hn2,hn3⟩,hcs1,hcs2,hcs3⟩)
   clear hn1 hn2 hn3 hcs1 hcs2 hcs3
   obtain⟨A1,k1,h1,q1,z1⟩:=aqd s1
   obtain⟨A2,k2,h2,q2,z2⟩:=aqd s2
   obtain⟨A3,k3,h3,q3,z3⟩:=aqd s3
   subst h1 h2 h3
   have q0:=hown 0 Om
   have q1:=hown 1 Om
   have q2:=hown 2 Om
   have q3:=hown 3 Om
   have q4:=hown 4 Om
   have q5:=hown 5 Om
   simp only [TyV.cells,List.getElem?_cons_zero,List.getElem?_cons_succ,Nat.add_zero] at q0 q1 q2 q3 q4 q5
   have hL1:cs1.length=n1*1:=by
    obtain⟨_,_,_,_,_,hl,_⟩:=s1
    exact hl
   have hzr:=HB.out.size
   have S1:=Hq s1
   have S2:=Hq s2
   have S3:=Hq s3
   have O1:=Hq o1
   have O2:=Hq o2
   have O3:=Hq o3
   have HL1:=Hq hL1
   clear s1 s2 s3 o1 o2 o3 hown ht hL1
   have X0:=Hq (aql wr [.string ⟨nm.toArray⟩, .string ⟨sp.toArray⟩, .int .i64 ac, .slice A1 n1 k1, .slice A2 n2 k2, .slice A3 n3 k3] 39)
   have B0:=Hq (HB.out.alloc hzr (.cells #[.string ⟨nm.toArray⟩, .string ⟨sp.toArray⟩, .int .i64 ac, .slice A1 n1 k1, .slice A2 n2 k2, .slice A3 n3 k3] 39))
   have SR1:=Hq (S1.out.keep (aqC.of_below B0.out)).src
   go_wp2_with (at_builtin;refine cq4 rfl _ _ 36 rfl Tryz.underlying36 cqK rfl Om (wr.heap.size+1) rfl (World.ownsRow_nil _ _ _ _) rfl HL1.out SR1.out O1.out Mz Om Sp ?_;intro v' w' ho hgr hb;refine aqa ?_)
   have X1:=Hq (X0.out.below hb (Nat.lt_succ_self _))
   have HO1:=Hq (aqF ho (Nat.zero_add _) (List.nil_append _))
   have B1:=Hq (((Below.refl wr.heap.size wr).alloc Nr (.cells #[.string ⟨nm.toArray⟩, .string ⟨sp.toArray⟩, .int .i64 ac, .slice A1 n1 k1, .slice A2 n2 k2, .slice A3 n3 k3] 39)).trans (hb.mono (Nat.le_succ _)))
   have hz1:wr.heap.size+1≤w'.heap.size:=by have:=hb.size;simpa using this
   clear ho hgr hb X0 SR1
   have S4:=Hq (aqs HO1.out (fun g=>wr.heap.size+1≤g) Om z1 (fun g hg=> (HO1.out.lt g hg).1))
   obtain⟨A4,k4,rfl,_⟩:=aqd (aqs HO1.out (fun _=>True) Om z1 (fun _ _=>trivial))
   have c3:=X1.out.cell 3 rfl
   have f3:=X1.out.frozen 3
   obtain⟨G,hG⟩: ∃G,wr.heap.size=G:=⟨_,rfl⟩
   rw [hG] at X1 c3 f3 hz1 HO1 S4⊢
   refine aqb ?_
   go_wp2_with fail
   have X2:=Hq (show Bx (w'.setCell ⟨G,3,none⟩ (.slice A4 n1 k4)) G [.string ⟨nm.toArray⟩, .string ⟨sp.toArray⟩, .int .i64 ac, .slice A4 n1 k4, .slice A2 n2 k2, .slice A3 n3 k3] 39 from X1.out.set 3 _)
   have B2:=Hq (B1.out.setCell (p:=⟨G,3,none⟩) (Nat.le_of_eq hG) (.slice A4 n1 k4))
   have S5:=Hq (S4.out.keep (aqC.of_but (ok:=fun g=>G+1≤g) ((But.refl w'.heap.size [G] w').set ⟨G,3,none⟩ (.inl Sp) (.slice A4 n1 k4)) (fun g hg hm=>by simp at hm;omega)))
   clear X1 B1 c3 f3 B0 HO1 S4
   generalize w'.setCell ⟨G,3,none⟩ (.slice A4 n1 k4)=w2 at*
   have XD:=Hq (X2.out.below ((Below.refl w2.heap.size w2).drew) X2.out.lt)
   have BD:=Hq (B2.out.trans (((Below.refl w2.heap.size w2).drew).mono B2.out.size))
   have S2D:=Hq (S2.out.keep (aqC.of_below (HB.out.trans (BD.out.mono hzr))))
   have c24:=X2.out.cell 4 rfl
   have c25:=X2.out.cell 5 rfl
   go_region_law (first
    | (go_simp;go_at_call 28
       refine(fqN _ n3 cs3 _ _ S3D.out O3.out).mono ?_
       rintro e w6 ⟨v6,rfl,ho6,hb6⟩
       obtain⟨A6,k6,rfl,_⟩:=aqd (aqs ho6 (fun _=>True) Om z3 (fun _ _=>trivial))
       have X6:=Hq (X5.out.below hb6 X5.out.lt)
       have B6:=Hq (B5.out.trans (hb6.mono B5.out.size))
       have W6:=Hq ho6
       have BW6:=Hq (BW5.out.trans (hb6.mono BW5.out.size))
       have W5':=Hq (aqj W5.out fun q hq=>hb6.block q (W5.out.lt q hq).2)
       have hz56:=B5.out.size
       have z64:=X6.out.frozen 4
       have z65:=X6.out.frozen 5
       have c64:=X6.out.cell 4 rfl
       have c65:=X6.out.cell 5 rfl
       clear ho6 hb6)
    | (go_simp;go_at_call 28
       refine(fqN _ n2 cs2 _ _ S2D.out O2.out).mono ?_
       rintro e w5 ⟨v5,rfl,ho5,hb5⟩
       obtain⟨A5,k5,rfl,_⟩:=aqd (aqs ho5 (fun _=>True) Om z2 (fun _ _=>trivial))
       have X5:=Hq (XD.out.below hb5 XD.out.lt)
       have B5:=Hq (BD.out.trans (hb5.mono BD.out.size))
       have W5:=Hq ho5
       have BW5:=Hq (((Below.refl w2.heap.size w2).drew).trans hb5)
       have c55:=X5.out.cell 5 rfl
       have S3D:=Hq (S3.out.keep (aqC.of_below (HB.out.trans (B5.out.mono hzr))))
       clear ho5 hb5))
   all_goals
    have X9:=Hq (show Bx ((w6.setCell ⟨G,4,none⟩ (.slice A5 n2 k5)).setCell ⟨G,5,none⟩ (.slice A6 n3 k6)) G [.string ⟨nm.toArray⟩, .string ⟨sp.toArray⟩, .int .i64 ac, .slice A4 n1 k4, .slice A5 n2 k5, .slice A6 n3 k6] 39 from(X6.out.set 4 _).set 5 _)
    have B9:=Hq ((B6.out.setCell (p:=⟨G,4,none⟩) (Nat.le_of_eq hG) (.slice A5 n2 k5)).setCell (p:=⟨G,5,none⟩) (Nat.le_of_eq hG) (.slice A6 n3 k6))
    have hz2w:=BW5.out.size
    have hz2G:=X2.out.lt
    have hq9: ∀q,q≠G→((w6.setCell ⟨G,4,none⟩ (.slice A5 n2 k5)).setCell ⟨G,5,none⟩ (.slice A6 n3 k6)).heap[q]?=w6.heap[q]?:=fun q hq=> (Below.heap_setCell _ _ _ _ (fun e=>hq (by first|exact e|exact e.symm))).trans (Below.heap_setCell _ _ _ _ (fun e=>hq (by first|exact e|exact e.symm)))
    have U6:=Hq (aqj W6.out fun q hq=>hq9 q (by have:=(W6.out.lt q hq).1;omega))
    have U5:=Hq (aqj W5'.out fun q hq=>hq9 q (by have:=(W5'.out.lt q hq).1;have h2:w2.drew.heap.size=w2.heap.size:=rfl;omega))
    have hk9:aqC (fun g=>G+1≤g) w6 ((w6.setCell ⟨G,4,none⟩ (.slice A5 n2 k5)).setCell ⟨G,5,none⟩ (.slice A6 n3 k6)):=⟨by simp,fun g hg hok o=>World.cell?_of_block (hq9 g Om)⟩
    have S9:=Hq ((S5.out.keep (aqC.of_below BW6.out)).keep hk9)
    have R9:=Hq (show iqI ((w6.setCell ⟨G,4,none⟩ (.slice A5 n2 k5)).setCell ⟨G,5,none⟩ (.slice A6 n3 k6)) (fun g=>G+1≤g) ⟨nm,sp,ac, .slice A4 n1 k4, .slice A5 n2 k5, .slice A6 n3 k6,il,fl,ml⟩ from by
     refine⟨?_, ?_, ?_⟩
     ·show bqm _ _ 1 il.length (il.map fun s=> .string ⟨s.toArray⟩) _
      rw [HNN.out.1.1,HNN.out.2.1]
      exact S9.out
     ·show bqm _ _ 5 fl.length (fl.flatMap cqW.cells) _
      rw [HNN.out.1.2.1,HNN.out.2.2.1]
      exact aqs U5.out _ Om z2 (fun g hg=>by have:=(U5.out.lt g hg).1;have h2:w2.drew.heap.size=w2.heap.size:=rfl;omega)
     show bqm _ _ 5 ml.length (ml.flatMap cqW.cells) _
     rw [HNN.out.1.2.2,HNN.out.2.2.2]
     exact aqs U6.out _ Om z3 (fun g hg=>by have:=(U6.out.lt g hg).1;omega))
    have M9:=Hq (show((w6.setCell ⟨G,4,none⟩ (.slice A5 n2 k5)).setCell ⟨G,5,none⟩ (.slice A6 n3 k6)).ownsRow (G+1) 52 5 (.slice A6 n3 k6) ml.length (ml.flatMap cqW.cells) by
     rw [HNN.out.1.2.2,HNN.out.2.2.2]
     exact dqw U6.out Om)
    clear X6 B6 W5 W5' W6 BW5 BW6 c55 z64 z65 c64 c65 hz56 hk9 U5 U6 S9 hq9 X5 B5 S3D XD BD S2D X2 B2 S5 c24 c25
    generalize ((w6.setCell ⟨G,4,none⟩ (.slice A5 n2 k5)).setCell ⟨G,5,none⟩ (.slice A6 n3 k6))=w9 at*
    have HO9:=Hq (aqj HO.out fun q hq=>B9.out.block q ((HO.out.lt q hq).2))
    have d0:=X9.out.cell 0 rfl
    have d1:=X9.out.cell 1 rfl
    have d2:=X9.out.cell 2 rfl
    have d3:=X9.out.cell 3 rfl
    have d4:=X9.out.cell 4 rfl
    have d5:=X9.out.cell 5 rfl
    have hz9:=B9.out.size
    go_wp2_with (at_builtin;refine bqi rfl _ _ 31 rfl Tryz.underlying31 cqd rfl Om W.heap.size rfl (HO9.out.alloc _) rfl rfl (fun _=> ⟨_,rfl,aqm _ _ _ _ rfl⟩) Oc Om Mz Om Sd ?_;intro g3 c3' wz ho hgr hb hgg hlt3;refine aqa ?_)
    have HOz:=Hq (aqF ho rfl (cq0 us ⟨nm,sp,ac, .slice A4 n1 k4, .slice A5 n2 k5, .slice A6 n3 k6,il,fl,ml⟩).symm)
    have HBz:=Hq (((HB.out.trans (B9.out.mono hzr)).alloc Om (.cells #[.string ⟨nm.toArray⟩, .string ⟨sp.toArray⟩, .int .i64 ac, .slice A4 n1 k4, .slice A5 n2 k5, .slice A6 n3 k6] 39)).trans hb)
    have hba:=(Below.refl w9.heap.size w9).alloc Nr (.cells #[.string ⟨nm.toArray⟩, .string ⟨sp.toArray⟩, .int .i64 ac, .slice A4 n1 k4, .slice A5 n2 k5, .slice A6 n3 k6] 39)
    have HIz:=Hq (HIF.out.next (t:=⟨nm,sp,ac, .slice A4 n1 k4, .slice A5 n2 k5, .slice A6 n3 k6,il,fl,ml⟩) (n:=k+1) (c:=c3') HO.out (B9.out.trans (hba.mono hz9)) hgr hgg (R9.out.keep (aqC.of_below hba) fun g _ hg=>by omega) (dqw (aqj M9.out fun q hq=>hba.block q (M9.out.lt q hq).2) Om) hzr)
    clear ho hgr hb hgg hba R9 M9
    refine aqb ?_
    go_wp2_with fail
    go_roundw
    case rel=>
     refine⟨k+1,us++ [⟨nm,sp,ac, .slice A4 n1 k4, .slice A5 n2 k5, .slice A6 n3 k6,il,fl,ml⟩],by omega,by go_num,HOz,Hq ?_,HBz,HIz⟩
     rw [List.map_append,HU.out,List.take_add_one,HT.out]
     simp [TyV.key]
    case measure=>simp [RowKit.intOf];omega
  obtain rfl:k=ts.length:=by omega
  go_wp2_with fail
  go_ret
  refine⟨_,us,rfl,HO.out, ?_,HIF.out,HB.out⟩
  rw [HU.out,List.take_length]
theorem kqO {B:Nat} {L:bqp} {nd:Nat} {defs:List UInt8→Option (List UInt8)} {files:List UInt8→Option aqc} {ks going:List (List UInt8)} {ts:List TyV} {v:Value} {W:World} (h:LdG B L nd defs files ks going ts v W) (h0:0<ts.length) (hn:ts.length≤1000):
  Calls Tryz.prog 14 #[.pointer (some ⟨L.lb,0,none⟩)] W fun e w'=> ∃ov ts',e= .returned ov∧w'.ownsRow W.heap.size 39 6 ov ts.length (bqE ts')∧ts'.map TyV.key=ts.map TyV.key∧Below W.heap.size W w':=
 (eq9 h h0 hn).mono fun e w' hq=>by
  obtain⟨ov,ts',h1,h2,h3,_,h4⟩:=hq
  exact⟨ov,ts',h1,h2,h3,h4⟩
end Go.Proofs.YtdbniocnjhfhdaaGreatDoor
namespace Go.Proofs.YtdbniocnjhfhdaaGreatDoor
open Go Go.RowKit Lib
theorem nqG {w:World} {B B':Nat} {e:TypeId} {size n:Nat} {v:Value} {xs:List Value} (h:w.ownsRow B e size v n xs) (hB:B'≤B):w.ownsRow B' e size v n xs:=by
 refine⟨h.1, ?_⟩
 rcases h.2 with h| ⟨g,c,cur,h1,h2,h3⟩
 ·exact .inl h
 exact .inr ⟨g,c,cur,h1,Nat.le_trans hB h2,h3⟩
theorem gqJ (n s:ByteArray) (hn:n.size≤1000) (hs:s.size≤1000) (w:World):
  Calls Tryz.prog 18 #[.string n, .string s] w fun e w'=> ∃g cap,e= .returned (.slice (some ⟨g,0,none⟩) (36+n.size+s.size) cap)∧
   w'.ownsRow w.heap.size 5 1 (.slice (some ⟨g,0,none⟩) (36+n.size+s.size) cap) (36+n.size+s.size) ((mqf n.data.toList s.data.toList).map bV)∧Below w.heap.size w w':=by
 have hp:fq9 (w.alloc (.cells #[.int .i64 1, .string n, .int .i64 0, .int .i64 0, .int .i64 0, .int .i64 7, .string ⟨#[]⟩, .int .i64 0, .int .i64 1, .int .i64 0, .int .i64 1, .string s, .int .i64 0, .int .i64 0, .int .i64 0, .int .i64 7, .string ⟨#[]⟩, .int .i64 0, .int .i64 3, .int .i64 0] 78)) w.heap.size (iqe n s):=by
  have hb:=aql w [.int .i64 1, .string n, .int .i64 0, .int .i64 0, .int .i64 0, .int .i64 7, .string ⟨#[]⟩, .int .i64 0, .int .i64 1, .int .i64 0, .int .i64 1, .string s, .int .i64 0, .int .i64 0, .int .i64 0, .int .i64 7, .string ⟨#[]⟩, .int .i64 0, .int .i64 3, .int .i64 0] 78
  intro j k hk
  have hj:j<4:=(List.getElem?_eq_some_iff.1 hk).1
  have:j=0∨j=1∨j=2∨j=3:=by omega
  rcases this with rfl|rfl|rfl|rfl<;> (simp only [iqe,List.getElem?_cons_zero,List.getElem?_cons_succ,Option.some.injEq] at hk;subst hk;exact⟨hb.cell _ rfl,hb.cell _ rfl,hb.cell _ rfl,hb.cell _ rfl,hb.cell _ rfl⟩)
 have HP:=Hq hp
 have HB:=Hq ((Below.refl w.heap.size w).alloc Nr (.cells #[.int .i64 1, .string n, .int .i64 0, .int .i64 0, .int .i64 0, .int .i64 7, .string ⟨#[]⟩, .int .i64 0, .int .i64 1, .int .i64 0, .int .i64 1, .string s, .int .i64 0, .int .i64 0, .int .i64 0, .int .i64 7, .string ⟨#[]⟩, .int .i64 0, .int .i64 3, .int .i64 0] 78))
 clear hp
 go_enter Tryz.func18,Tryz.ntmps18
 go_wp2_with (go_at_call 31;refine aqa ?_)
 refine aqb ?_
 refine(oq0 w.heap.size 4 n s hn hs Nr _ HP.out Sp).mono ?_
 rintro e w2 ⟨g,cap,rfl,ho,hb⟩
 have HO:=Hq ho
 have HB2:=Hq (HB.out.trans (hb.mono Sp))
 clear ho hb
 go_wp2_with fail
 go_ret
 refine⟨g,cap,rfl, ?_,HB2.out⟩
 rw [←nqF n s hn hs]
 exact nqG HO.out Sd
def gqc:List UInt8→Option (List UInt8):=kqs (kqs (fun _=>none) [65] (mqf [65] [66])) [66] (mqf [66] [106,97,118,97,47,108,97,110,103,47,79,98,106,101,99,116])
def aCore:LT:=⟨bqj,fun _=>none⟩
def jqm:Option ByteArray×LT:=aqM (rdD aqK gqc) 65 [] aCore ⟨#[65]⟩
theorem gq8:jqm.1=none∧jqm.2.ts.length=28∧(aqM (rdD aqK gqc) 65 [] jqm.2 ⟨#[88]⟩).1=some eqG:=by decide+kernel
theorem aLdK:LdK aqK gqc [[65], [66]]:=by
 refine gq7 gqc _ (fun s l hs=> ?_) Dd9
 unfold gqc kqs at hs
 split at hs
 ·simp [*]
 split at hs
 ·simp [*]
 cases hs
theorem mqm (x:Int) (w:World):Calls Tryz.prog 19 #[.int .i64 x] w fun e w'=>e= .returned (.int .i64 x)∧w=w':=by
 go_enter Tryz.func19,Tryz.ntmps19
 go_wp2_with fail
 go_ret
 exact⟨rfl,rfl⟩
abbrev GlB (w:World):Prop:=w.cell? ⟨0,0,none⟩=some (.iface 132 (.agg #[.pointer (some ⟨2,69,none⟩)]))
theorem mqn {w:World} (h:GlB w):0<w.heap.size:=by
 rcases Nat.eq_zero_or_pos w.heap.size with h0|h0
 ·exfalso
  have:w.heap[0]?=none:=by simp [h0]
  unfold GlB World.cell? at h
  simp [this] at h
 exact h0
theorem GlB.below {B:Nat} {w w':World} (h:GlB w) (hb:Below B w w') (hB:0<B):GlB w':=(hb.cell (p:=⟨0,0,none⟩) hB).trans h
theorem LdG.low {B:Nat} {L:bqp} {nd:Nat} {defs:List UInt8→Option (List UInt8)} {files:List UInt8→Option aqc} {ks going:List (List UInt8)} {ts:List TyV} {v:Value} {W w':World} (h:LdG B L nd defs files ks going ts v W) (hb:But W.heap.size [L.bd] W w'):Below B W w':=by
 have ho:=h.ord
 have hl:=h.lt
 exact(hb.mono (S':= []) (B':=B) Om (fun k hk hm=>by simp at hm;omega)).below
theorem mqo (w:World) (hgl:GlB w):Calls Tryz.prog 10 #[] w fun e w'=>e= .returned (.bool true)∧Below w.heap.size w w':=by
 have hB:=mqn hgl
 have HGL:=Hq hgl
 clear hgl
 go_enter Tryz.func10,Tryz.ntmps10
 go_wp2_with (go_at_call 12;refine aqa ?_)
 refine aqb ?_
 refine(oqh w).mono ?_
 rintro e w1 ⟨L,v,ts,rfl,hk,h1,hb1⟩
 have H1:=Hq h1
 have HK:=Hq hk
 have B1:=Hq hb1
 clear h1 hk hb1
 go_wp2_with (go_at_call 18;refine aqa ?_)
 refine aqb ?_
 refine(gqJ ⟨#[65]⟩ ⟨#[66]⟩ Dd9 Dd9 w1).mono ?_
 rintro e w2 ⟨g2,k2,rfl,ho2,hb2⟩
 have H2:=Hq (H1.out.below hb2)
 have R2:=Hq (gqL ho2)
 have B2:=Hq (B1.out.trans (hb2.mono B1.out.size))
 clear ho2 hb2 H1
 go_wp2_with (go_at_call 15;refine aqa ?_)
 refine aqb ?_
 refine(iq4 H2.out ⟨#[65]⟩ _ _ _ _ Dd9 R2.out (by decide+kernel) (by decide+kernel) Dd9 rfl Om).mono ?_
 rintro e w3 ⟨rfl,h3,hb3⟩
 have H3:=Hq h3
 have B3:=Hq (B2.out.trans (H2.out.low hb3))
 clear h3 hb3 H2 R2
 go_wp2_with (go_at_call 18;refine aqa ?_)
 refine aqb ?_
 refine(gqJ ⟨#[66]⟩ ⟨#[106,97,118,97,47,108,97,110,103,47,79,98,106,101,99,116]⟩ Dd9 Dd9 w3).mono ?_
 rintro e w4 ⟨g4,k4,rfl,ho4,hb4⟩
 have H4:=Hq (H3.out.below hb4)
 have R4:=Hq (gqL ho4)
 have B4:=Hq (B3.out.trans (hb4.mono B3.out.size))
 clear ho4 hb4 H3
 go_wp2_with (go_at_call 15;refine aqa ?_)
 refine aqb ?_
 refine(iq4 H4.out ⟨#[66]⟩ _ _ _ _ Dd9 R4.out (by decide+kernel) (by decide+kernel) Dd9 Dd9 Om).mono ?_
 rintro e w5 ⟨rfl,h5,hb5⟩
 have H5:=Hq (show LdG w.heap.size L 2 gqc (fun _=>none) (ts.map TyV.name) [] ts v w5 from h5)
 have B5:=Hq (B4.out.trans (H4.out.low hb5))
 have G5:=Hq (HGL.out.below B5.out hB)
 clear h5 hb5 H4 R4
 go_wp2_with (first
  | (go_at_call 19;refine(mqm _ _).mono ?_;rintro e w' ⟨rfl,rfl⟩)
  | (go_at_call 13;refine aqa ?_))
 refine aqb ?_
 have C6:=Hq (fqR aqK gqc _ aLdK w.heap.size L 2 _ ts v w5 ⟨#[65]⟩ H5.out (fq8 HK.out) Dd9 hB G5.out)
 have e6:aqM (rdD aqK gqc) 65 [] ⟨ts.map TyV.key,fun _=>none⟩ ⟨#[65]⟩=jqm:=by rw [HK.out];rfl
 rw [e6] at C6
 refine C6.out.mono ?_
 rintro e w6 ⟨rfl,X6,ts6,v6,hk6,h6,hks6,hb6,_⟩
 have hl6:ts6.length=28:=by
  have:=congrArg List.length hk6
  rw [List.length_map,gq8.2.1] at this
  exact this
 have H6:=Hq h6
 have HK6:=Hq hk6
 have KS6:=Hq hks6
 have B6:=Hq (B5.out.trans hb6)
 have G6:=Hq (HGL.out.below B6.out hB)
 clear h6 hk6 hks6 hb6 C6 e6 H5 G5
 rw [gq8.1]
 unfold fqP
 go_wp2_with (go_at_call 14;refine aqa ?_)
 refine aqb ?_
 refine(kqO H6.out Om Om).mono ?_
 rintro e w7 ⟨ov,ts7,rfl,ho7,_,hb7⟩
 rw [hl6] at ho7
 obtain⟨A7,k7,rfl,_⟩:=aqd (aqs ho7 (fun _=>True) Om Om (fun _ _=>trivial))
 have H7:=Hq (H6.out.below hb7)
 have B7:=Hq (B6.out.trans (hb7.mono B6.out.size))
 have G7:=Hq (HGL.out.below B7.out hB)
 clear ho7 hb7 H6 G6
 go_wp2_with (go_at_call 13;refine aqa ?_)
 refine aqb ?_
 have C8:=Hq (fqR aqK gqc _ aLdK w.heap.size _ 2 _ ts6 v6 w7 ⟨#[88]⟩ H7.out KS6.out Dd9 hB G7.out)
 rw [HK6.out] at C8
 refine C8.out.mono ?_
 rintro e w8 ⟨rfl,X8,ts8,v8,_,_,_,hb8,_⟩
 have B8:=Hq (B7.out.trans hb8)
 clear hb8 C8
 rw [show aqM (rdD aqK gqc) 65 [] ⟨jqm.2.ts,jqm.2.files⟩ ⟨#[88]⟩=aqM (rdD aqK gqc) 65 [] jqm.2 ⟨#[88]⟩ from rfl,gq8.2.2]
 have e8:fqP (some eqG)=⟨#[106,97,118,97,47,108,97,110,103,47,78,111,67,108,97,115,115,68,101,102,70,111,117,110,100,69,114,114,111,114]⟩:=by decide
 rw [e8]
 go_wp2_with fail
 go_ret
 exact⟨rfl,B8.out⟩
end Go.Proofs.YtdbniocnjhfhdaaGreatDoor
namespace Go.Proofs.YtdbniocnjhfhdaaGreatDoor
open Go Go.RowKit Lib Go.Maps
section
variable {B:Nat} {L:bqp} {nd:Nat} {defs:List UInt8→Option (List UInt8)} {files:List UInt8→Option aqc} {ks going:List (List UInt8)} {ts:List TyV} {v:Value} {W:World}
theorem mqp (h:LdG B L nd defs files ks going ts v W) (s:ByteArray) (hs:s.size≤maxLen) (hf:files s.data.toList=none):
  Calls Tryz.prog 24 #[.pointer (some ⟨L.lb,0,none⟩), .string s] W fun e w'=>e= .returned (.tuple #[.agg aqz.toArray, .bool false])∧Below W.heap.size W w':=by
 obtain⟨ff,n,hn,hM,hA⟩:=h.hf
 have HN:=Hq (show ff s.data.toList=none by have:=hA s.data.toList;rw [hf] at this;exact this)
 have HM:=Hq hM
 have hbf:=hM.lt
 have hc:=h.c1
 have hl:=h.lt
 have X0:=Hq (aql W aqz 58)
 have X1:=Hq (aql (W.alloc (.cells aqz.toArray 58)) aqz 58)
 clear hM hA h
 go_enter Tryz.func24,Tryz.ntmps24
 go_wp2_with (first
  | (at_lookup;refine cqs rfl _ _ rfl Tryz.underlying9 Tryz.underlying62 (z:= .agg #[.int .i64 0, .int .i64 0, .slice none 0 0, .int .i64 0, .int .i64 0, .int .i64 0, .slice none 0 0, .slice none 0 0, .slice none 0 0]) Kq9 rfl (HM.out.keep ((Rf9.alloc Nr _).block _ hbf)) rfl hs ?_;rw [HN.out])
  | (refine wpList_store_row rfl _ _ _ rfl (W.heap.size+1) _ rfl rfl _ _ X1.out Kq9 rfl Oc ?_;refine aqa ?_))
 refine bodyPost_ret (bqy rfl rfl rfl (X0.out.below (Rf9.alloc Nr _) Sp) rfl rfl Kq9) rfl ⟨rfl,(Rf9.alloc Nr _).alloc Sp _⟩
theorem iqg (l:List Ko): ∀u∈l.flatMap Ko.cells,u.oneCell'=true:=by
 intro u hu
 obtain⟨k,_,hk⟩:=List.mem_flatMap.1 hu
 simp only [Ko.cells,List.mem_cons,List.not_mem_nil,or_false] at hk
 rcases hk with rfl|rfl|rfl|rfl|rfl<;>rfl
theorem gq9 (l:List aqq): ∀u∈l.flatMap aqq.cells,u.oneCell'=true:=by
 intro u hu
 obtain⟨k,_,hk⟩:=List.mem_flatMap.1 hu
 simp only [aqq.cells,List.mem_cons,List.not_mem_nil,or_false] at hk
 rcases hk with rfl|rfl|rfl|rfl<;>rfl
theorem nqH {α:Type} (l:List α) (f:α→Int): ∀u∈l.map (fun x=>Value.int .i64 (f x)),u.oneCell'=true:=by
 intro u hu
 obtain⟨k,_,rfl⟩:=List.mem_map.1 hu
 rfl
end
end Go.Proofs.YtdbniocnjhfhdaaGreatDoor
