/-
  What the laws rest on, part 16: walks of the program's functions and plain laws. Conditions: none but those that each theorem names.
-/
import Derived.Test.YtpbnjakeielipaaGreatDoorB00
import Derived.Test.YtpbnjakeielipaaGreatDoorB15
import Derived.Deep.RegionLaw
import Derived.Test.YtpbnjakeielipaaGreatDoorB12
import Derived.DeepKeys3
import Derived.Maps.Keyed
set_option linter.unusedSimpArgs false
set_option linter.unusedVariables false
set_option maxRecDepth 100000
set_option maxHeartbeats 1000000
namespace Go.Proofs.YtpbnjakeielipaaGreatDoor
open Go Go.RowKit Lib
theorem info_member:(Tryz.prog.info? 128).map (fun i=> (i.zero,i.size,i.bytes))=some (some (.agg #[.int .i64 0, .string ⟨#[]⟩, .string ⟨#[]⟩, .bool false, .int .i64 0]),5,56):=by kernel_rfl
theorem SlAt.src {w:World} {ok:Nat→Prop} {size n cap:Nat} {A:Option Addr} {cells:List Value} (h:SlAt w ok size n cells (.slice A n cap)):0<n→ ∃ad,A=some ad∧ ∀j u,cells[j]?=some u→w.cell? (ad.add j)=some u:=fun h0=>by
 obtain⟨A',cap',e,_,_,_,h5⟩:=h
 cases e
 obtain⟨b,off,rfl,_,_,hc⟩:=h5 h0
 exact⟨_,rfl,fun j u hu=>by rw [add_cell];exact hc j u hu⟩
theorem own_kind {w:World} {B B':Nat} {e e':TypeId} {s s' n n':Nat} {u u':Value} {xs xs':List Value} (h:w.ownsRow B e s u n xs) (h':w.ownsRow B' e' s' u' n' xs') (hne:e≠e') {g:Nat} (hg:u.ownBlock=some g):u'.ownBlock≠some g:=fun hg'=>by
 rcases h.2 with⟨rfl,_⟩ | ⟨b,_,_,rfl,_,h1,_⟩
 ·cases hg
 rcases h'.2 with⟨rfl,_⟩ | ⟨b',_,_,rfl,_,h1',_⟩
 ·cases hg'
 simp only [Value.ownBlock,Option.some.injEq] at hg hg'
 subst hg
 subst hg'
 rw [h1] at h1'
 injection h1' with h1'
 injection h1' with _ h2 _
 exact hne h2
theorem members_any (v:Value) (n:Nat) (cells:List Value) (ok:Nat→Prop) (w:World) (h:SlAt w ok 5 n cells v) (h1: ∀u∈cells,u.oneCell'=true):
  Calls Tryz.prog 36 #[v] w fun e w'=> ∃v',e= .returned v'∧w'.ownsRow w.heap.size 128 5 v' n cells∧Below w.heap.size w w':=by
 obtain⟨A,cap,rfl,h2,h3,h4,_⟩:=id h
 have HS:=Lib.hid h.src
 have HL:=Lib.hid h4
 have H1:=Lib.hid h1
 clear h h4 h1
 go_enter Tryz.func36,Tryz.ntmps36
 go_wp2_with (at_builtin;refine wpl_own rfl _ _ 73 rfl Tryz.underlying73 info_member rfl (by omega) w.heap.size rfl (World.ownsRow_nil _ _ _ _) rfl HL.out HS.out H1.out (by simp only [maxLen];omega) (by omega) (Nat.le_refl _) ?_;intro v' w' ho hg hb;refine stop_here ?_)
 have HO:=Lib.hid (own_eq ho (Nat.zero_add _) (List.nil_append _))
 have HB:=Lib.hid hb
 clear ho hg hb
 refine go_on ?_
 go_wp2_with fail
 go_ret
 exact⟨v',rfl,HO.out,HB.out⟩
end Go.Proofs.YtpbnjakeielipaaGreatDoor
namespace Go.Proofs.YtpbnjakeielipaaGreatDoor
open Go Go.RowKit Lib Go.Maps
def IfsAt (M:Nat) (o:Value) (us:List TyV) (w:World):Prop:= ∀t∈us,TyRd w (fun g=>M≤g∧o.ownBlock≠some g) t∧w.ownsRow M 128 5 t.mths t.ml.length t.mCells
theorem IfsAt.next {M n k c g3:Nat} {o:Value} {us:List TyV} {t:TyV} {xs:List Value} {w wa wz:World} (h:IfsAt M o us w) (hO:w.ownsRow M 75 6 o k xs) (hb:Below w.heap.size w wa) (hg:wa.grownBy wz o.ownBlock) (hgg:o.ownBlock=some g3∨g3=wa.heap.size)
  (ht:TyRd wa (fun g=>w.heap.size≤g) t) (hm:wa.ownsRow w.heap.size 128 5 t.mths t.ml.length t.mCells) (hM:M≤w.heap.size):IfsAt M (.slice (some ⟨g3,0,none⟩) n c) (us++ [t]) wz:=by
 have hs:=hb.size
 have hk:Kept (fun g=> (M≤g∧o.ownBlock≠some g)∧g<wa.heap.size) wa wz:=⟨hg.size,fun g hgl hok off=>World.cell?_of_block (w:=wa) (hg.block g hgl (fun e=>hok.1.2 e.symm))⟩
 have hon: ∀g,o.ownBlock=some g→g<w.heap.size:=fun g hg=> (hO.lt g hg).2
 have last: ∀u:TyV,TyRd wa (fun g=>M≤g∧o.ownBlock≠some g) u∧wa.ownsRow M 128 5 u.mths u.ml.length u.mCells∧(∀g,u.mths.ownBlock=some g→o.ownBlock≠some g)→TyRd wz (fun g=>M≤g∧(Value.slice (some ⟨g3,0,none⟩) n c).ownBlock≠some g) u∧wz.ownsRow M 128 5 u.mths u.ml.length u.mCells:=fun u hu=>by
  refine⟨TyRd.keep (ok:=fun g=> (M≤g∧o.ownBlock≠some g)∧g<wa.heap.size) ⟨hu.1.1.mono fun g h1 h2=> ⟨h2,h1⟩,hu.1.2.1.mono fun g h1 h2=> ⟨h2,h1⟩,hu.1.2.2.mono fun g h1 h2=> ⟨h2,h1⟩⟩ hk fun g _ hok=> ⟨hok.1.1,fun e=> ?_⟩,own_heap hu.2.1 fun q hq=>hg.block q (hu.2.1.lt q hq).2 fun e=>hu.2.2 q hq e.symm⟩
  have e':g3=g:=by simpa [Value.ownBlock] using e
  subst e'
  rcases hgg with hgg|hgg
  ·exact hok.1.2 hgg
  ·have:=hok.2
   omega
 intro u hu
 rcases List.mem_append.1 hu with hu|hu
 ·obtain⟨h1,h2⟩:=h u hu
  exact last u ⟨h1.keep (Kept.of_below hb) fun _ _ h=>h,own_heap h2 fun q hq=>hb.block q (h2.lt q hq).2,fun g hg=>own_kind h2 hO (by decide) hg⟩
 ·obtain rfl:u=t:=by simpa using hu
  exact last u ⟨⟨ht.1.mono fun g _ hg=> ⟨by omega,fun e=>by have:=hon g e;omega⟩,ht.2.1.mono fun g _ hg=> ⟨by omega,fun e=>by have:=hon g e;omega⟩,ht.2.2.mono fun g _ hg=> ⟨by omega,fun e=>by have:=hon g e;omega⟩⟩,own_low hm hM,fun g hg e=>by have:=hon g e;have:=(hm.lt g hg).1;omega⟩
theorem ltypes_all {B:Nat} {L:LPos} {nd:Nat} {defs:List UInt8→Option (List UInt8)} {files:List UInt8→Option ClassV} {ks going:List (List UInt8)} {ts:List TyV} {v:Value} {W:World} (h:LdG B L nd defs files ks going ts v W) (h0:0<ts.length) (hn:ts.length≤1000):
  Calls Tryz.prog 15 #[.pointer (some ⟨L.lb,0,none⟩)] W fun e w'=> ∃ov ts',e= .returned ov∧w'.ownsRow W.heap.size 75 6 ov ts.length (tyCells ts')∧ts'.map TyV.key=ts.map TyV.key∧IfsAt W.heap.size ov ts' w'∧Below W.heap.size W w':=by
 obtain⟨g,cap,rfl,hcap,hg,hcell⟩:=h.rows h0
 have C4:=h.c4
 have hlt:=h.lt
 have HC:=Lib.hid hcell
 have HR:=Lib.hid h.rd
 clear hcell h
 go_enter Tryz.func15,Tryz.ntmps15
 go_wp2_with fail
 go_loopw [3,11] (fun o i wr=> ∃(k:Nat) (us:List TyV),k≤ts.length∧i= .int .i64 k∧Hid (wr.ownsRow W.heap.size 75 6 o k (tyCells us))∧Hid (us.map TyV.key=(ts.take k).map TyV.key)∧Hid (Below W.heap.size W wr)∧Hid (IfsAt W.heap.size o us wr)) (fun _ i _=>ts.length - (RowKit.intOf i).toNat)
 case atStart=>exact⟨0, [],by omega,rfl,Lib.hid (World.ownsRow_nil _ _ _ _),Lib.hid rfl,Lib.hid (Below.refl _ _),Lib.hid (by intro t ht;cases ht)⟩
 case round=>
  obtain⟨k,us,hk,rfl,HO,HU,HB,HIF⟩:=hrel
  by_cases hlt2:k<ts.length
  ·obtain⟨t,ht⟩: ∃t,ts[k]?=some t:=⟨_,List.getElem?_eq_getElem hlt2⟩
   have hrd:=HR.out t (List.mem_of_getElem? ht)
   have hown:=fun q (hq:q<6)=> (HB.out.cell (p:=⟨g,k*6+q,none⟩) hg).trans (HC.out k t ht q hq)
   have HT:=Lib.hid ht
   obtain⟨nm,sp,ac,i1,f1,m1,il,fl,ml⟩:=t
   obtain⟨s1,s2,s3⟩:=hrd
   simp only [TyV.ifCells,TyV.fCells,TyV.mCells] at s1 s2 s3
   obtain⟨n1,hn1⟩: ∃n,il.length=n:=⟨_,rfl⟩
   obtain⟨n2,hn2⟩: ∃n,fl.length=n:=⟨_,rfl⟩
   obtain⟨n3,hn3⟩: ∃n,ml.length=n:=⟨_,rfl⟩
   obtain⟨cs1,hcs1⟩: ∃cs:List Value,il.map (fun s=>Value.string ⟨s.toArray⟩)=cs:=⟨_,rfl⟩
   obtain⟨cs2,hcs2⟩: ∃cs:List Value,fl.flatMap MemV.cells=cs:=⟨_,rfl⟩
   obtain⟨cs3,hcs3⟩: ∃cs:List Value,ml.flatMap MemV.cells=cs:=⟨_,rfl⟩
   have o1: ∀u∈cs1,u.oneCell'=true:=by rw [←hcs1];intro u hu;obtain⟨x,_,rfl⟩:=List.mem_map.1 hu;rfl
   have o2: ∀u∈cs2,u.oneCell'=true:=by rw [←hcs2];exact mem_cells fl
   have o3: ∀u∈cs3,u.oneCell'=true:=by rw [←hcs3];exact mem_cells ml
   rw [hcs1,hn1] at s1
   rw [hcs2,hn2] at s2
   rw [hcs3,hn3] at s3
   have HNN:=Lib.hid (show(il.length=n1∧fl.length=n2∧ml.length=n3)∧il.map (fun s=>Value.string ⟨s.toArray⟩)=cs1∧fl.flatMap MemV.cells=cs2∧ml.flatMap MemV.cells=cs3 from⟨⟨hn1,hn2,hn3⟩,hcs1,hcs2,hcs3⟩)
   clear hn1 hn2 hn3 hcs1 hcs2 hcs3
   obtain⟨A1,k1,h1,q1,z1⟩:=sl_len s1
   obtain⟨A2,k2,h2,q2,z2⟩:=sl_len s2
   obtain⟨A3,k3,h3,q3,z3⟩:=sl_len s3
   subst h1 h2 h3
   have q0:=hown 0 (by omega)
   have q1:=hown 1 (by omega)
   have q2:=hown 2 (by omega)
   have q3:=hown 3 (by omega)
   have q4:=hown 4 (by omega)
   have q5:=hown 5 (by omega)
   simp only [TyV.cells,List.getElem?_cons_zero,List.getElem?_cons_succ,Nat.add_zero] at q0 q1 q2 q3 q4 q5
   have hL1:cs1.length=n1*1:=by
    obtain⟨_,_,_,_,_,hl,_⟩:=s1
    exact hl
   have hzr:=HB.out.size
   have S1:=Lib.hid s1
   have S2:=Lib.hid s2
   have S3:=Lib.hid s3
   have O1:=Lib.hid o1
   have O2:=Lib.hid o2
   have O3:=Lib.hid o3
   have HL1:=Lib.hid hL1
   clear s1 s2 s3 o1 o2 o3 hown ht hL1
   have X0:=Lib.hid (bx_new wr [.string ⟨nm.toArray⟩, .string ⟨sp.toArray⟩, .int .i64 ac, .slice A1 n1 k1, .slice A2 n2 k2, .slice A3 n3 k3] 75)
   have B0:=Lib.hid (HB.out.alloc hzr (.cells #[.string ⟨nm.toArray⟩, .string ⟨sp.toArray⟩, .int .i64 ac, .slice A1 n1 k1, .slice A2 n2 k2, .slice A3 n3 k3] 75))
   have SR1:=Lib.hid (S1.out.keep (Kept.of_below B0.out)).src
   go_wp2_with (at_builtin;refine wpl_own rfl _ _ 31 rfl Tryz.underlying31 info_string rfl (by omega) (wr.heap.size+1) rfl (World.ownsRow_nil _ _ _ _) rfl HL1.out SR1.out O1.out (by simp only [maxLen];omega) (by omega) (by simp) ?_;intro v' w' ho hgr hb;refine stop_here ?_)
   have X1:=Lib.hid (X0.out.below hb (Nat.lt_succ_self _))
   have HO1:=Lib.hid (own_eq ho (Nat.zero_add _) (List.nil_append _))
   have B1:=Lib.hid (((Below.refl wr.heap.size wr).alloc (Nat.le_refl _) (.cells #[.string ⟨nm.toArray⟩, .string ⟨sp.toArray⟩, .int .i64 ac, .slice A1 n1 k1, .slice A2 n2 k2, .slice A3 n3 k3] 75)).trans (hb.mono (Nat.le_succ _)))
   have hz1:wr.heap.size+1≤w'.heap.size:=by have:=hb.size;simpa using this
   clear ho hgr hb X0 SR1
   have S4:=Lib.hid (slAt_own HO1.out (fun g=>wr.heap.size+1≤g) (by omega) z1 (fun g hg=> (HO1.out.lt g hg).1))
   obtain⟨A4,k4,rfl,_⟩:=sl_len (slAt_own HO1.out (fun _=>True) (by omega) z1 (fun _ _=>trivial))
   have c3:=X1.out.cell 3 rfl
   have f3:=X1.out.frozen 3
   obtain⟨G,hG⟩: ∃G,wr.heap.size=G:=⟨_,rfl⟩
   rw [hG] at X1 c3 f3 hz1 HO1 S4⊢
   refine go_on ?_
   go_wp2_with fail
   have X2:=Lib.hid (show Bx (w'.setCell ⟨G,3,none⟩ (.slice A4 n1 k4)) G [.string ⟨nm.toArray⟩, .string ⟨sp.toArray⟩, .int .i64 ac, .slice A4 n1 k4, .slice A2 n2 k2, .slice A3 n3 k3] 75 from X1.out.set 3 _)
   have B2:=Lib.hid (B1.out.setCell (p:=⟨G,3,none⟩) (Nat.le_of_eq hG) (.slice A4 n1 k4))
   have S5:=Lib.hid (S4.out.keep (Kept.of_but (ok:=fun g=>G+1≤g) ((But.refl w'.heap.size [G] w').set ⟨G,3,none⟩ (.inl (by simp)) (.slice A4 n1 k4)) (fun g hg hm=>by simp at hm;omega)))
   clear X1 B1 c3 f3 B0 HO1 S4
   generalize w'.setCell ⟨G,3,none⟩ (.slice A4 n1 k4)=w2 at*
   have XD:=Lib.hid (X2.out.below ((Below.refl w2.heap.size w2).drew) X2.out.lt)
   have BD:=Lib.hid (B2.out.trans (((Below.refl w2.heap.size w2).drew).mono B2.out.size))
   have S2D:=Lib.hid (S2.out.keep (Kept.of_below (HB.out.trans (BD.out.mono hzr))))
   have c24:=X2.out.cell 4 rfl
   have c25:=X2.out.cell 5 rfl
   go_region_law (first
    | (go_simp;go_at_call 36
       refine(members_any _ n3 cs3 _ _ S3D.out O3.out).mono ?_
       rintro e w6 ⟨v6,rfl,ho6,hb6⟩
       obtain⟨A6,k6,rfl,_⟩:=sl_len (slAt_own ho6 (fun _=>True) (by omega) z3 (fun _ _=>trivial))
       have X6:=Lib.hid (X5.out.below hb6 X5.out.lt)
       have B6:=Lib.hid (B5.out.trans (hb6.mono B5.out.size))
       have W6:=Lib.hid ho6
       have BW6:=Lib.hid (BW5.out.trans (hb6.mono BW5.out.size))
       have W5':=Lib.hid (own_heap W5.out fun q hq=>hb6.block q (W5.out.lt q hq).2)
       have hz56:=B5.out.size
       have z64:=X6.out.frozen 4
       have z65:=X6.out.frozen 5
       have c64:=X6.out.cell 4 rfl
       have c65:=X6.out.cell 5 rfl
       clear ho6 hb6)
    | (go_simp;go_at_call 36
       refine(members_any _ n2 cs2 _ _ S2D.out O2.out).mono ?_
       rintro e w5 ⟨v5,rfl,ho5,hb5⟩
       obtain⟨A5,k5,rfl,_⟩:=sl_len (slAt_own ho5 (fun _=>True) (by omega) z2 (fun _ _=>trivial))
       have X5:=Lib.hid (XD.out.below hb5 XD.out.lt)
       have B5:=Lib.hid (BD.out.trans (hb5.mono BD.out.size))
       have W5:=Lib.hid ho5
       have BW5:=Lib.hid (((Below.refl w2.heap.size w2).drew).trans hb5)
       have c55:=X5.out.cell 5 rfl
       have S3D:=Lib.hid (S3.out.keep (Kept.of_below (HB.out.trans (B5.out.mono hzr))))
       clear ho5 hb5))
   all_goals
    have X9:=Lib.hid (show Bx ((w6.setCell ⟨G,4,none⟩ (.slice A5 n2 k5)).setCell ⟨G,5,none⟩ (.slice A6 n3 k6)) G [.string ⟨nm.toArray⟩, .string ⟨sp.toArray⟩, .int .i64 ac, .slice A4 n1 k4, .slice A5 n2 k5, .slice A6 n3 k6] 75 from(X6.out.set 4 _).set 5 _)
    have B9:=Lib.hid ((B6.out.setCell (p:=⟨G,4,none⟩) (Nat.le_of_eq hG) (.slice A5 n2 k5)).setCell (p:=⟨G,5,none⟩) (Nat.le_of_eq hG) (.slice A6 n3 k6))
    have hz2w:=BW5.out.size
    have hz2G:=X2.out.lt
    have hq9: ∀q,q≠G→((w6.setCell ⟨G,4,none⟩ (.slice A5 n2 k5)).setCell ⟨G,5,none⟩ (.slice A6 n3 k6)).heap[q]?=w6.heap[q]?:=fun q hq=> (Below.heap_setCell _ _ _ _ (fun e=>hq (by first|exact e|exact e.symm))).trans (Below.heap_setCell _ _ _ _ (fun e=>hq (by first|exact e|exact e.symm)))
    have U6:=Lib.hid (own_heap W6.out fun q hq=>hq9 q (by have:=(W6.out.lt q hq).1;omega))
    have U5:=Lib.hid (own_heap W5'.out fun q hq=>hq9 q (by have:=(W5'.out.lt q hq).1;have h2:w2.drew.heap.size=w2.heap.size:=rfl;omega))
    have hk9:Kept (fun g=>G+1≤g) w6 ((w6.setCell ⟨G,4,none⟩ (.slice A5 n2 k5)).setCell ⟨G,5,none⟩ (.slice A6 n3 k6)):=⟨by simp,fun g hg hok o=>World.cell?_of_block (hq9 g (by omega))⟩
    have S9:=Lib.hid ((S5.out.keep (Kept.of_below BW6.out)).keep hk9)
    have R9:=Lib.hid (show TyRd ((w6.setCell ⟨G,4,none⟩ (.slice A5 n2 k5)).setCell ⟨G,5,none⟩ (.slice A6 n3 k6)) (fun g=>G+1≤g) ⟨nm,sp,ac, .slice A4 n1 k4, .slice A5 n2 k5, .slice A6 n3 k6,il,fl,ml⟩ from by
     refine⟨?_, ?_, ?_⟩
     ·show SlAt _ _ 1 il.length (il.map fun s=> .string ⟨s.toArray⟩) _
      rw [HNN.out.1.1,HNN.out.2.1]
      exact S9.out
     ·show SlAt _ _ 5 fl.length (fl.flatMap MemV.cells) _
      rw [HNN.out.1.2.1,HNN.out.2.2.1]
      exact slAt_own U5.out _ (by omega) z2 (fun g hg=>by have:=(U5.out.lt g hg).1;have h2:w2.drew.heap.size=w2.heap.size:=rfl;omega)
     ·show SlAt _ _ 5 ml.length (ml.flatMap MemV.cells) _
      rw [HNN.out.1.2.2,HNN.out.2.2.2]
      exact slAt_own U6.out _ (by omega) z3 (fun g hg=>by have:=(U6.out.lt g hg).1;omega))
    have M9:=Lib.hid (show((w6.setCell ⟨G,4,none⟩ (.slice A5 n2 k5)).setCell ⟨G,5,none⟩ (.slice A6 n3 k6)).ownsRow (G+1) 128 5 (.slice A6 n3 k6) ml.length (ml.flatMap MemV.cells) by
     rw [HNN.out.1.2.2,HNN.out.2.2.2]
     exact own_low U6.out (by omega))
    clear X6 B6 W5 W5' W6 BW5 BW6 c55 z64 z65 c64 c65 hz56 hk9 U5 U6 S9 hq9 X5 B5 S3D XD BD S2D X2 B2 S5 c24 c25
    generalize ((w6.setCell ⟨G,4,none⟩ (.slice A5 n2 k5)).setCell ⟨G,5,none⟩ (.slice A6 n3 k6))=w9 at*
    have HO9:=Lib.hid (own_heap HO.out fun q hq=>B9.out.block q ((HO.out.lt q hq).2))
    have d0:=X9.out.cell 0 rfl
    have d1:=X9.out.cell 1 rfl
    have d2:=X9.out.cell 2 rfl
    have d3:=X9.out.cell 3 rfl
    have d4:=X9.out.cell 4 rfl
    have d5:=X9.out.cell 5 rfl
    have hz9:=B9.out.size
    go_wp2_with (at_builtin;refine wpl_lies rfl _ _ 60 rfl Tryz.underlying60 info_type rfl (by omega) W.heap.size rfl (HO9.out.alloc _) rfl rfl (fun _=> ⟨_,rfl,cells_new_at _ _ _ _ rfl⟩) (by simp [Value.oneCell']) (by omega) (by simp only [maxLen];omega) (by omega) (by simp;omega) ?_;intro g3 c3' wz ho hgr hb hgg hlt3;refine stop_here ?_)
    have HOz:=Lib.hid (own_eq ho rfl (tyCells_snoc us ⟨nm,sp,ac, .slice A4 n1 k4, .slice A5 n2 k5, .slice A6 n3 k6,il,fl,ml⟩).symm)
    have HBz:=Lib.hid (((HB.out.trans (B9.out.mono hzr)).alloc (by omega) (.cells #[.string ⟨nm.toArray⟩, .string ⟨sp.toArray⟩, .int .i64 ac, .slice A4 n1 k4, .slice A5 n2 k5, .slice A6 n3 k6] 75)).trans hb)
    have hba:=(Below.refl w9.heap.size w9).alloc (Nat.le_refl _) (.cells #[.string ⟨nm.toArray⟩, .string ⟨sp.toArray⟩, .int .i64 ac, .slice A4 n1 k4, .slice A5 n2 k5, .slice A6 n3 k6] 75)
    have HIz:=Lib.hid (HIF.out.next (t:=⟨nm,sp,ac, .slice A4 n1 k4, .slice A5 n2 k5, .slice A6 n3 k6,il,fl,ml⟩) (n:=k+1) (c:=c3') HO.out (B9.out.trans (hba.mono hz9)) hgr hgg (R9.out.keep (Kept.of_below hba) fun g _ hg=>by omega) (own_low (own_heap M9.out fun q hq=>hba.block q (M9.out.lt q hq).2) (by omega)) hzr)
    clear ho hgr hb hgg hba R9 M9
    refine go_on ?_
    go_wp2_with fail
    go_roundw
    case rel=>
     refine⟨k+1,us++ [⟨nm,sp,ac, .slice A4 n1 k4, .slice A5 n2 k5, .slice A6 n3 k6,il,fl,ml⟩],by omega,by go_num,HOz,Lib.hid ?_,HBz,HIz⟩
     rw [List.map_append,HU.out,List.take_add_one,HT.out]
     simp [TyV.key]
    case measure=>simp [RowKit.intOf];omega
  ·obtain rfl:k=ts.length:=by omega
   go_wp2_with fail
   go_ret
   refine⟨_,us,rfl,HO.out, ?_,HIF.out,HB.out⟩
   rw [HU.out,List.take_length]
theorem ltypes_any {B:Nat} {L:LPos} {nd:Nat} {defs:List UInt8→Option (List UInt8)} {files:List UInt8→Option ClassV} {ks going:List (List UInt8)} {ts:List TyV} {v:Value} {W:World} (h:LdG B L nd defs files ks going ts v W) (h0:0<ts.length) (hn:ts.length≤1000):
  Calls Tryz.prog 15 #[.pointer (some ⟨L.lb,0,none⟩)] W fun e w'=> ∃ov ts',e= .returned ov∧w'.ownsRow W.heap.size 75 6 ov ts.length (tyCells ts')∧ts'.map TyV.key=ts.map TyV.key∧Below W.heap.size W w':=
 (ltypes_all h h0 hn).mono fun e w' hq=>by
  obtain⟨ov,ts',h1,h2,h3,_,h4⟩:=hq
  exact⟨ov,ts',h1,h2,h3,h4⟩
abbrev anyB:Nat→Prop:=fun _=>True
theorem kept_any {W W':World} (h:Below W.heap.size W W'):Kept anyB W W':=Kept.of_below h
def SmTy (t:TyV):Prop:=t.name.length≤1048576∧t.sup.length≤1048576∧ ∀i∈t.ifl,i.length≤1048576
structure TabAt (W:World) (g cap:Nat) (ts:List TyV):Prop where
 pos:0<ts.length
 le:ts.length≤1000
 cap:ts.length≤cap
 lt:g<W.heap.size
 c: ∀j t,ts[j]?=some t→ ∀q,q<6→W.cell? ⟨g,j*6+q,none⟩=t.cells[q]?
 rd: ∀t∈ts,TyRd W anyB t
 sm: ∀t∈ts,SmTy t
def tabV (g cap:Nat) (ts:List TyV):Value:= .slice (some ⟨g,0,none⟩) ts.length cap
def tns (ts:List TyV):List (List UInt8):=ts.map TyV.name
section
variable {W W' w:World} {g cap:Nat} {ts:List TyV}
theorem TabAt.below (h:TabAt W g cap ts) (hb:Below W.heap.size W W'):TabAt W' g cap ts:=
 ⟨h.pos,h.le,h.cap,Nat.lt_of_lt_of_le h.lt hb.size,fun j t ht q hq=> (hb.cell (p:=⟨g,j*6+q,none⟩) h.lt).trans (h.c j t ht q hq),fun t ht=> (h.rd t ht).keep (kept_any hb) fun _ _ _=>trivial,h.sm⟩
theorem TabAt.name (h:TabAt W g cap ts) (j:Nat) (s:List UInt8) (hj:(tns ts)[j]?=some s):W.cell? ⟨g,j*6,none⟩=some (.string ⟨s.toArray⟩):=by
 unfold tns at hj
 rw [List.getElem?_map] at hj
 rcases ht:ts[j]? with _|t
 ·rw [ht] at hj;cases hj
 ·rw [ht] at hj
  injection hj with hj
  have:=h.c j t ht 0 (by omega)
  rw [Nat.add_zero] at this
  rw [this, ←hj]
  rfl
theorem TabAt.c0 (h:TabAt W g cap ts) {j:Nat} {t:TyV} (ht:ts[j]?=some t):W.cell? ⟨g,j*6,none⟩=some (.string ⟨t.name.toArray⟩):=h.c j t ht 0 (by omega)
theorem TabAt.c1 (h:TabAt W g cap ts) {j:Nat} {t:TyV} (ht:ts[j]?=some t):W.cell? ⟨g,j*6+1,none⟩=some (.string ⟨t.sup.toArray⟩):=h.c j t ht 1 (by omega)
theorem TabAt.c2 (h:TabAt W g cap ts) {j:Nat} {t:TyV} (ht:ts[j]?=some t):W.cell? ⟨g,j*6+2,none⟩=some (.int .i64 t.acc):=h.c j t ht 2 (by omega)
theorem TabAt.c3 (h:TabAt W g cap ts) {j:Nat} {t:TyV} (ht:ts[j]?=some t):W.cell? ⟨g,j*6+3,none⟩=some (t.ifs):=h.c j t ht 3 (by omega)
theorem TabAt.c4 (h:TabAt W g cap ts) {j:Nat} {t:TyV} (ht:ts[j]?=some t):W.cell? ⟨g,j*6+4,none⟩=some (t.flds):=h.c j t ht 4 (by omega)
theorem TabAt.c5 (h:TabAt W g cap ts) {j:Nat} {t:TyV} (ht:ts[j]?=some t):W.cell? ⟨g,j*6+5,none⟩=some (t.mths):=h.c j t ht 5 (by omega)
theorem tab_at (h:TabAt W g cap ts) (s:ByteArray):
  Calls Tryz.prog 45 #[tabV g cap ts, .string s] W fun e w'=>e= .returned (.int .i64 (atOf (tns ts) s.toList))∧W=w':=
 at_any g ts.length cap (tns ts) s W (by simp [tns]) h.cap (by have:=h.le;omega) h.name
theorem atOf_cases (ts:List TyV) (s:List UInt8):atOf (tns ts) s= -1∧s∉tns ts∨ ∃(k:Nat) (t:TyV),atOf (tns ts) s=k∧ts[k]?=some t∧t.name=s:=by
 rcases hk:(tns ts).findIdx? (fun x=>x==s) with _|k
 ·left
  refine⟨by unfold atOf;rw [hk],fun hm=> ?_⟩
  rw [List.findIdx?_eq_none_iff] at hk
  simpa using hk s hm
 ·right
  rw [List.findIdx?_eq_some_iff_getElem] at hk
  obtain⟨hlt,he,_⟩:=id hk
  have hlt':k<ts.length:=by simpa [tns] using hlt
  refine⟨k,ts[k], ?_,List.getElem?_eq_getElem hlt', ?_⟩
  ·unfold atOf
   rw [List.findIdx?_eq_some_iff_getElem.2 hk]
  ·simpa [tns] using he
end
def strC (cs:List (List UInt8)):List Value:=cs.map fun s=> .string ⟨s.toArray⟩
theorem strC_len (cs:List (List UInt8)):(strC cs).length=cs.length:=List.length_map ..
theorem strC_at {cs:List (List UInt8)} {j:Nat} {s:List UInt8} (h:cs[j]?=some s):(strC cs)[j]?=some (.string ⟨s.toArray⟩):=by
 unfold strC
 rw [List.getElem?_map,h]
 rfl
theorem srow_cells {w:World} {ok:Nat→Prop} {l:List (List UInt8)} {A:Option Addr} {cap:Nat} (h:SlAt w ok 1 l.length (strC l) (.slice A l.length cap)) (k:Nat) (x:List UInt8) (hk:l[k]?=some x): ∃b off,A=some ⟨b,off,none⟩∧b<w.heap.size∧w.cell? ⟨b,off+k,none⟩=some (.string ⟨x.toArray⟩):=by
 obtain⟨A',cap',e,_,_,_,h5⟩:=h
 cases e
 obtain⟨b,off,e,hlt,_,hc⟩:=h5 (by have:=(List.getElem?_eq_some_iff.1 hk).1;omega)
 exact⟨b,off,e,hlt,hc _ _ (strC_at hk)⟩
theorem mrow_cells {w:World} {ok:Nat→Prop} {l:List MemV} {A:Option Addr} {cap:Nat} (h:SlAt w ok 5 l.length (l.flatMap MemV.cells) (.slice A l.length cap)) (k:Nat) (x:MemV) (hk:l[k]?=some x): ∃b off,A=some ⟨b,off,none⟩∧b<w.heap.size∧
  w.cell? ⟨b,off+k*5,none⟩=some (.int .i64 x.acc)∧w.cell? ⟨b,off+k*5+1,none⟩=some (.string x.name)∧w.cell? ⟨b,off+k*5+2,none⟩=some (.string x.desc)∧w.cell? ⟨b,off+k*5+3,none⟩=some (.bool x.has)∧w.cell? ⟨b,off+k*5+4,none⟩=some (.int .i64 x.value):=by
 obtain⟨A',cap',e,_,_,_,h5⟩:=h
 cases e
 obtain⟨b,off,e,hlt,_,hc⟩:=h5 (by have:=(List.getElem?_eq_some_iff.1 hk).1;omega)
 have hr:=rows_at MemV.cells 5 (fun _=>rfl) l k x hk
 exact⟨b,off,e,hlt,hc _ _ ((hr 0 (by omega)).trans rfl),hc _ _ ((hr 1 (by omega)).trans rfl),hc _ _ ((hr 2 (by omega)).trans rfl),hc _ _ ((hr 3 (by omega)).trans rfl),hc _ _ ((hr 4 (by omega)).trans rfl)⟩
theorem run_get {P:Program} {w:World} {k e t:TypeId} {b n sz:Nat} {f:List UInt8→Option Value} (hk:P.underlying k=some .string) (ht:P.underlying t=some (.map k e)) {z:Value} (hz:(zeroValue e).run P w= .ok z w) (h:MapS w P k b n f sz) {s:ByteArray} (hs:s.size≤maxLen):(Instr.lookup t (.map (some b)) (.string s) false).run P w= .ok ((f s.data.toList).getD z) w:=by
 obtain⟨D,hown,_,hat,hh⟩:=h
 obtain⟨v,ps,hrun,hv⟩:=hown.lookup (string_keyed hk) ht hz (R:=tokR) rfl (Go.WideMaps.keyOf_string_mk hk hs)
 rw [hat] at hv
 rw [hrun,held_of hv]
theorem zI (W:World):(zeroValue 3).run Tryz.prog W= .ok (.int .i64 0) W:=by kernel_rfl
theorem get_in {w:World} {b n sz:Nat} {ks:List (List UInt8)} (h:MapS w Tryz.prog 9 b n (inNames ks) sz) {s:ByteArray} (hs:s.size≤1048576) (hi:s.data.toList∈ks):(Instr.lookup 69 (.map (some b)) (.string s) false).run Tryz.prog w= .ok (.int .i64 1) w:=by
 rw [run_get Tryz.underlying9 Tryz.underlying69 (zI w) h (by unfold maxLen;omega)]
 unfold inNames
 rw [if_pos hi]
 rfl
theorem get_out {w:World} {b n sz:Nat} {ks:List (List UInt8)} (h:MapS w Tryz.prog 9 b n (inNames ks) sz) {s:ByteArray} (hs:s.size≤1048576) (hi:s.data.toList∉ks):(Instr.lookup 69 (.map (some b)) (.string s) false).run Tryz.prog w= .ok (.int .i64 0) w:=by
 rw [run_get Tryz.underlying9 Tryz.underlying69 (zI w) h (by unfold maxLen;omega)]
 unfold inNames
 rw [if_neg hi]
 rfl
theorem mem_tns {ts:List TyV} {k:Nat} {t:TyV} (h:ts[k]?=some t):t.name∈tns ts:=List.mem_map.2 ⟨t,List.mem_of_getElem? h,rfl⟩
def Some1 (ts:List TyV) (cs:List (List UInt8)):Prop:=cs.Nodup∧ ∀c∈cs,c∈tns ts
theorem Some1.len {ts:List TyV} {cs:List (List UInt8)} (h:Some1 ts cs):cs.length≤ts.length:=by
 have:=nodup_len cs (tns ts) h.1 h.2
 simpa [tns] using this
theorem Some1.snoc {ts:List TyV} {cs:List (List UInt8)} {s:List UInt8} (h:Some1 ts cs) (hs:s∉cs) (hm:s∈tns ts):Some1 ts (cs++ [s]):=
 ⟨List.nodup_append.2 ⟨h.1,by simp,fun a ha b hb e=>by simp at hb;subst hb;exact hs (e▸ha)⟩,fun c hc=>by
  rcases List.mem_append.1 hc with hc|hc
  ·exact h.2 c hc
  ·simp at hc;exact hc▸hm⟩
def StrR (w w':World) (v:Value) (cs:List (List UInt8)):Prop:=SlAt w' (fun g=>w.heap.size≤g) 1 cs.length (strC cs) v∧Below w.heap.size w w'
theorem strR_of {w w':World} {B:Nat} {v:Value} {cs:List (List UInt8)} (h:w'.ownsRow B 9 1 v cs.length (strC cs)) (hB:w.heap.size≤B) (hl:cs.length≤1048576) (hb:Below w.heap.size w w'):StrR w w' v cs:=
 ⟨slAt_own h _ (by omega) hl fun g hg=>Nat.le_trans hB (h.lt g hg).1,hb⟩
theorem own_cap {w:World} {B size n:Nat} {e:TypeId} {v:Value} {xs:List Value} (h:w.ownsRow B e size v n xs): ∃A q,v= .slice A n q∧n≤q:=by
 rcases h.2 with⟨rfl,rfl⟩ | ⟨g,cap,cur,rfl,_,_,hc,_⟩
 ·exact⟨none,0,rfl,Nat.le_refl _⟩
 ·exact⟨_,cap,rfl,hc⟩
theorem slAt_cut {w:World} {ok:Nat→Prop} {size n q:Nat} {cs:List Value} {A:Option Addr} (h:SlAt w ok size n cs (.slice A n q)):SlAt w ok size n cs (.slice A n n):=by
 obtain⟨A',cap,e,_,h2,h3,h4⟩:=h
 cases e
 exact⟨A,n,rfl,Nat.le_refl _,h2,h3,h4⟩
theorem chain_any {g cap:Nat} {ts:List TyV} {w:World} (h:TabAt w g cap ts) (s:ByteArray) (hs:s.size≤1048576):
  Calls Tryz.prog 98 #[tabV g cap ts, .string s] w fun e w'=> ∃v cs,e= .returned v∧Some1 ts cs∧StrR w w' v cs:=by
 have HB0:=Lib.hid ((Below.refl w.heap.size w).alloc (Nat.le_refl _) (.map #[] 0))
 have H:=Lib.hid h
 have HT:=Lib.hid (h.below HB0.out)
 have HM:=Lib.hid (mapS_made w Tryz.prog 9)
 have hle:=h.le
 have hcap:=h.cap
 have hlt0:=h.lt
 have hmm:= @run_makeMap Tryz.prog
 clear h
 unfold tabV
 go_enter Tryz.func98,Tryz.ntmps98
 go_wp2_with (go_at_call 45;refine(tab_at HT.out _).mono ?_;rintro e w1 ⟨rfl,rfl⟩;refine stop_here ?_)
 have hz0:(w.alloc (.map #[] 0)).heap.size=w.heap.size+1:=by simp
 generalize w.alloc (.map #[] 0)=w1 at*
 refine go_on ?_
 go_wp2_with fail
 go_loopw [1,5,7] (fun nv ov av wr=> ∃(nm:ByteArray) (cs:List (List UInt8)),nv= .string nm∧nm.size≤1048576∧av= .int .i64 (atOf (tns ts) nm.toList)∧Hid (Some1 ts cs)∧Hid (wr.ownsRow (w.heap.size+1) 9 1 ov cs.length (strC cs))∧Hid (MapS wr Tryz.prog 9 w.heap.size cs.length (inNames cs) cs.length)∧Hid (Below w.heap.size w wr)) (fun nv ov av wr=>match ov with| .slice _ n _=>ts.length+1 - n|_=>0)
 case atStart=>exact⟨s, [],rfl,hs,rfl,Lib.hid ⟨by simp,by simp⟩,Lib.hid (World.ownsRow_nil _ _ _ _),Lib.hid HM.out,HB0⟩
 case round=>
  obtain⟨nm,cs,rfl,hnm,rfl,HC,HO,HMs,HB⟩:=hrel
  have hcl:=HC.out.len
  have hzr:=HB.out.size
  have HTr:=Lib.hid (H.out.below HB.out)
  rcases atOf_cases ts nm.toList with⟨ha,hno⟩ | ⟨k,t,ha,hk,hn⟩
  ·have HE:=Lib.hid (strR_of HO.out (by omega) (by omega) HB.out)
   have HAt:=Lib.hid ha
   rw [ha]
   clear ha hno
   obtain⟨A,q,rfl,hq⟩:=own_cap HO.out
   go_wp2_with fail
   go_ret
   exact⟨_,cs,rfl,HC.out,⟨slAt_cut HE.out.1,HE.out.2⟩⟩
  ·have hlt:=(List.getElem?_eq_some_iff.1 hk).1
   rw [ha]
   have HN:=Lib.hid hn
   have HK:=Lib.hid hk
   have HAt:=Lib.hid ha
   obtain⟨A,q,rfl,hq⟩:=own_cap HO.out
   by_cases hin:nm.data.toList∈cs
   ·have HE:=Lib.hid (strR_of (w:=w) HO.out (by omega) (by omega) HB.out)
    have hlk:=get_in HMs.out hnm hin
    clear hin hk hn ha
    go_wp2_with fail
    go_ret
    exact⟨_,cs,rfl,HC.out,⟨slAt_cut HE.out.1,HE.out.2⟩⟩
   ·have hlk:=get_out HMs.out hnm hin
    have hsm:=(H.out.sm t (List.mem_of_getElem? hk)).2.1
    have c1:=HTr.out.c1 hk
    have hnm2:t.name=nm.data.toList:=by rw [hn,ByteArray.toList_eq]
    have HS:=Lib.hid (HC.out.snoc hin (hnm2▸mem_tns hk))
    have HIN:=Lib.hid hin
    clear hin hk hn ha hnm2
    go_wp2_with (at_mapUpdate;refine wpl_put rfl _ _ _ rfl Tryz.underlying9 Tryz.underlying69 rfl HMs.out (by unfold maxLen;omega) rfl (by unfold maxLen;omega) rfl ?_;intro w2 hm2 hg2;refine stop_here ?_)
    refine go_on ?_
    have HM2:=Lib.hid (show MapS w2 Tryz.prog 9 w.heap.size (cs.length+1) (inNames (cs++ [nm.data.toList])) (cs.length+1) from by
     have h:=hm2
     rw [inNames_out HIN.out] at h
     rw [←inNames_snoc]
     exact h)
    have HB2:=Lib.hid (HB.out.grown hg2 hzr (fun k hk=>by cases hk;exact Nat.le_refl _))
    have HO2:=Lib.hid (own_heap HO.out fun q hq=>hg2.block q (HO.out.lt q hq).2 (fun e=>by cases e;have:=(HO.out.lt _ hq).1;omega))
    have HT2:=Lib.hid (H.out.below HB2.out)
    have c2:=HT2.out.c1 HK.out
    have hz2:=HB2.out.size
    clear hm2 hg2 c1
    go_wp2_with (at_builtin;refine stop_here ?_)
    refine go_on ?_
    refine wpl_append rfl _ _ 31 rfl Tryz.underlying31 info_string rfl (by omega) (w.heap.size+1) rfl (HO2.out.alloc _) rfl rfl (cells_new_at _ _ _ _ (by first|rfl|omega| (simp<;>omega))) (by simp [Value.oneCell']) (by simp only [maxLen];omega) (by omega) (by first|rfl|omega| (simp<;>omega)) ?_
    intro v' w3 ho hg hb3
    have HBa:=(Below.refl w2.heap.size w2).alloc (Nat.le_refl _) (.cells #[.string nm] 9)
    have HB3:=Lib.hid (HB2.out.trans ((HBa.mono hz2).trans (hb3.mono (Nat.le_succ _))))
    have HM3:=Lib.hid (HM2.out.keep ((hb3.block w.heap.size (Nat.lt_succ_self _)).trans (HBa.block w.heap.size HM2.out.lt)))
    have HO3:=Lib.hid (own_eq ho (m:=(cs++ [nm.data.toList]).length) (by simp) (ys:=strC (cs++ [nm.data.toList])) (by simp [strC]))
    have HM3':=Lib.hid (show MapS w3 Tryz.prog 9 w.heap.size (cs++ [nm.data.toList]).length (inNames (cs++ [nm.data.toList])) (cs++ [nm.data.toList]).length by rw [List.length_append];exact HM3.out)
    have HT3:=Lib.hid (H.out.below HB3.out)
    obtain⟨A3,q3,rfl,hq3⟩:=own_cap ho
    have c3:=HT3.out.c1 HK.out
    clear ho hg hb3 HBa c2
    go_wp2_with (go_at_call 45;refine(tab_at HT3.out _).mono ?_;rintro e w4 ⟨rfl,rfl⟩)
    go_roundw
    case rel=>exact⟨_,cs++ [nm.data.toList],rfl,by simpa [ByteArray.size] using hsm,by simp [ByteArray.toList_eq],HS,HO3,HM3',HB3⟩
    case measure=>simp;omega
set_option maxHeartbeats 4000000
theorem fields_none {g cap:Nat} {ts:List TyV} {w:World} (h:TabAt w g cap ts) (hno: ∀t∈ts,t.fl= []) (s:ByteArray) (hs:s.size≤1048576) (fv:Value):
  Calls Tryz.prog 92 #[tabV g cap ts, .string s,fv] w fun e w'=>e= .returned (.tuple #[])∧Below w.heap.size w w':=by
 have HC:=Lib.hid (chain_any h s hs)
 have H:=Lib.hid h
 have HNo:=Lib.hid hno
 have hle:=h.le
 have hcap:=h.cap
 have hg:=h.lt
 clear h hno
 unfold tabV at HC⊢
 go_enter Tryz.func92,Tryz.ntmps92
 go_wp2_with (go_at_call 98;refine HC.out.mono ?_;rintro e w1 ⟨v,cs,rfl,hso,hst⟩;refine stop_here ?_)
 obtain⟨A,q,rfl,hq,_⟩:=sl_len hst.1
 have HST:=Lib.hid (show SlAt w1 anyB 1 cs.length (strC cs) (.slice A cs.length q) from hst.1.mono fun _ _ _=>trivial)
 have HB1:=Lib.hid hst.2
 have HSO:=Lib.hid hso
 have hcl:cs.length≤1000:=Nat.le_trans hso.len hle
 clear hso hst
 refine go_on ?_
 go_wp2_with fail
 go_loopw [16] (fun kv wr=> ∃k:Nat,kv= .int .i64 k∧k≤cs.length∧Hid (Below w1.heap.size w1 wr)) (fun kv wr=>cs.length - (RowKit.intOf kv).toNat)
 case atStart=>exact⟨0,rfl,by omega,Lib.hid (Below.refl _ _)⟩
 case round=>
  obtain⟨k,rfl,hk,HB⟩:=hrel
  have hz1:=HB1.out.size
  have hzr:=HB.out.size
  by_cases hlt:k<cs.length
  ·have hcj:cs.length - 1 - k<cs.length:=by omega
   obtain⟨s1,hs1⟩: ∃s,cs[cs.length - 1 - k]?=some s:=⟨_,List.getElem?_eq_getElem hcj⟩
   obtain⟨b,o,rfl,g1,a0⟩:=srow_cells (HST.out.keep (kept_any HB.out)) (cs.length - 1 - k) s1 hs1
   obtain⟨j,hj⟩: ∃j,cs.length - 1 - k=j:=⟨_,rfl⟩
   have w1':IntKind.i64.wrap ((cs.length:Int) - 1)=(cs.length:Int) - 1:=IntWalk.i64_in _ (by omega)
   have w2':IntKind.i64.wrap ((cs.length:Int) - 1 - (k:Int))=(j:Int):=by rw [IntWalk.i64_in _ (by omega)];omega
   rw [hj] at a0 hs1 hcj
   have hj0:(0:Int)≤j:=by omega
   have hj1:(j:Int) <cs.length:=by omega
   have hmem:=HSO.out.2 s1 (List.mem_of_getElem? hs1)
   have HTr:=Lib.hid (H.out.below (HB1.out.trans (HB.out.mono hz1)))
   rcases atOf_cases ts s1 with⟨_,hno⟩ | ⟨i,t,ha,hi,hnn⟩
   ·exact absurd hmem hno
   ·have c4:=HTr.out.c4 hi
    have hil:=(List.getElem?_eq_some_iff.1 hi).1
    obtain⟨_,r2,_⟩:=HTr.out.rd t (List.mem_of_getElem? hi)
    obtain⟨A2,q2,e2,_,_⟩:=sl_len r2
    have hfl:=HNo.out t (List.mem_of_getElem? hi)
    rw [hfl] at e2
    rw [e2] at c4
    have HAt:=Lib.hid (tab_at HTr.out ⟨s1.toArray⟩)
    rw [show(⟨s1.toArray⟩:ByteArray).toList=s1 by rw [ByteArray.toList_eq],ha] at HAt
    have hgr:=HTr.out.lt
    clear hi hnn ha r2 e2 hfl hmem hs1 hj
    unfold tabV at HAt
    go_wp2_with (go_at_call 45;refine HAt.out.mono ?_;rintro e w2 ⟨rfl,rfl⟩)
    have HBo:=Lib.hid HB.out
    clear a0 c4 w1' w2' HTr hgr HAt HB
    go_loopw [35] (fun iv w2=>iv= .int .i64 0∧Hid (Below w1.heap.size w1 w2)) (fun _ _=>0)
    case atStart=>exact⟨rfl,HBo⟩
    case round=>
     obtain⟨rfl,HB⟩:=hrel
     go_wp2_with fail
     go_roundw
     case rel=>exact⟨k+1,by go_num,by omega,HB⟩
     case measure=>simp [RowKit.intOf];omega
  ·obtain rfl:k=cs.length:=by omega
   go_wp2_with fail
   refine⟨rfl, .tuple #[],by simp [results,Tryz.results92],rfl,HB1.out.trans (HB.out.mono hz1)⟩
theorem fresh_none {g cap:Nat} {ts:List TyV} {w:World} (h:TabAt w g cap ts) (hno: ∀t∈ts,t.fl= []) (s:ByteArray) (hs:s.size≤1048576):
  Calls Tryz.prog 67 #[tabV g cap ts, .string s] w fun e w'=>e= .returned (.slice none 0 0)∧Below w.heap.size w w':=by
 have HB1:=Lib.hid ((Below.refl w.heap.size w).alloc (Nat.le_refl _) (.cells #[.slice none 0 0] 76))
 have X1:=Lib.hid (bx_new w [.slice none 0 0] 76)
 have HF:=Lib.hid (fun fv=>fields_none (h.below HB1.out) hno s hs fv)
 clear h hno
 unfold tabV at HF⊢
 go_enter Tryz.func67,Tryz.ntmps67
 go_wp2_with (go_at_call 92;refine(HF.out _).mono ?_;rintro e w2 ⟨rfl,hb2⟩;refine stop_here ?_)
 have x0:=(X1.out.below hb2 (by simp)).cell 0 rfl
 have HB2:=Lib.hid (HB1.out.trans (hb2.mono HB1.out.size))
 clear hb2
 refine go_on ?_
 go_wp2_with fail
 go_ret
 exact⟨rfl,HB2.out⟩
set_option maxHeartbeats 1000000
section
variable {P:Program} {w:World} {k e t:TypeId} {b n sz:Nat} {f:List UInt8→Option Value}
theorem run_getK (K:Keyed P k) (ht:P.underlying t=some (.map k e)) {z:Value} (hz:(zeroValue e).run P w= .ok z w) (h:MapS w P k b n f sz) {kv:Value} {s:List UInt8} (hs:keyOf P k kv=some (.string s)):(Instr.lookup t (.map (some b)) kv false).run P w= .ok ((f s).getD z) w:=by
 obtain⟨D,hown,_,hat,hh⟩:=h
 obtain⟨v,ps,hrun,hv⟩:=hown.lookup K ht hz (R:=tokR) rfl hs
 rw [hat] at hv
 rw [hrun,held_of hv]
theorem run_lookK (K:Keyed P k) (ht:P.underlying t=some (.map k e)) {z:Value} (hz:(zeroValue e).run P w= .ok z w) (h:MapS w P k b n f sz) {kv:Value} {s:List UInt8} (hs:keyOf P k kv=some (.string s)):(Instr.lookup t (.map (some b)) kv true).run P w= .ok (.tuple #[(f s).getD z, .bool (f s).isSome]) w:=by
 obtain⟨D,hown,_,hat,hh⟩:=h
 obtain⟨v,ps,hrun,hv⟩:=hown.look_ok K ht hz (R:=tokR) rfl hs
 rw [hat] at hv
 rw [hrun,held_of hv,hh]
theorem MapS.storeK (h:MapS w P k b n f sz) (K:Keyed P k) (ht:P.underlying t=some (.map k e)) (hn:n<maxLen) {kv:Value} {s:List UInt8} (hs:keyOf P k kv=some (.string s)) (u:Value):
  ∃w',(Instr.mapUpdate t (.map (some b)) kv u).run P w= .ok () w'∧MapS w' P k b (n+1) (putF f s u) (if(f s).isSome then sz else sz+1)∧w.grownBy w' (some b):=by
 obtain⟨D,hown,hsz,hat,hh⟩:=h
 have ht':=hown.tidy K
 obtain⟨w',hrun,h1,h2⟩:=hown.store K ht hn hs (val:=u) (d:= .held u) (ps:= []) rfl
 refine⟨w',hrun,⟨_,h1, ?_, ?_, ?_⟩,h2.grown⟩
 ·rw [size_put ht',hh,hsz]
 ·intro s' z
  unfold putF
  by_cases hs':s'=s
  ·subst hs'
   rw [atKey_put_same ht'.isMap (by simp [WideAt.IsKeyLit]),if_pos rfl]
   rfl
  ·rw [atKey_put_other (lit_ne hs'),if_neg hs',hat]
 ·intro s'
  unfold putF
  by_cases hs':s'=s
  ·subst hs'
   rw [has_put_same ht'.isMap (by simp [WideAt.IsKeyLit]),if_pos rfl]
   rfl
  ·rw [has_put_other (lit_ne hs'),if_neg hs',hh]
end
def I64 (n:Int):Prop:= -9223372036854775808≤n∧n≤9223372036854775807
theorem wf_i64 {n:Int} (h:I64 n):(Lit.int .i64 n).wf=true:=by
 have h1:IntKind.i64.min= -9223372036854775808:=rfl
 have h2:IntKind.i64.max=9223372036854775807:=rfl
 have:=h.1
 have:=h.2
 unfold Lit.wf
 simp [h1,h2]
 omega
theorem cells_wint:Tryz.prog.cellsOf 3=1:=by kernel_rfl
theorem cells_wstr:Tryz.prog.cellsOf 9=1:=by kernel_rfl
theorem types_wsize: ∃m,Tryz.prog.types.size+1=m+1+1:=⟨Tryz.prog.types.size - 1,by have:0<Tryz.prog.types.size:=of_decide_eq_true (by kernel_rfl);omega⟩
structure FndV where
 cls:ByteArray
 at_:Int
def FndV.cells (f:FndV):List Value:= [.string f.cls, .int .i64 f.at_]
def fnd0:FndV:=⟨⟨#[]⟩,0⟩
theorem keyed_found:Keyed Tryz.prog 37:=Keyed.of_law (deep_law (m:=5) (by omega) (by kernel_rfl) (by kernel_rfl) (by rw [Tryz.underlying37]))
theorem cells_found:Tryz.prog.cellsOf 37=2:=by kernel_rfl
theorem keytype_found:Tryz.prog.keyType 37=true:=by kernel_rfl
def kbF (f:FndV):List UInt8:=keyBytes [.string f.cls.data.toList, .int .i64 f.at_]
theorem keyLits_found (m:Nat) (f:FndV) (hs:f.cls.size≤maxLen) (hn:I64 f.at_):Tryz.prog.keyLits (m+1+1) 37 [.string f.cls, .int .i64 f.at_]=some [.string f.cls.data.toList, .int .i64 f.at_]:=by
 unfold Program.keyLits
 simp only [Tryz.underlying37]
 rw [if_pos ⟨by rw [cells_found];rfl,by simp⟩]
 simp only [List.mapM_cons,List.mapM_nil,cells_wstr,cells_wint]
 unfold Program.keyLits
 simp [Tryz.underlying9,Tryz.underlying3,hs,wf_i64 hn]
theorem key_ofF (f:FndV) (hs:f.cls.size≤maxLen) (hn:I64 f.at_):keyOf Tryz.prog 37 (.agg #[.string f.cls, .int .i64 f.at_])=some (.string (kbF f)):=by
 obtain⟨m,hm⟩:=types_wsize
 unfold keyOf
 simp only [Tryz.underlying37]
 rw [if_pos]
 ·rw [hm]
  show Option.map _ (Tryz.prog.keyLits (m+1+1) 37 [.string f.cls, .int .i64 f.at_])=_
  rw [keyLits_found m f hs hn]
  rfl
 ·rw [keytype_found]
  simp [Value.formed,Tryz.underlying37,cells_found]
theorem keyed_ref:Keyed Tryz.prog 144:=Keyed.of_law (deep_law (m:=5) (by omega) (by kernel_rfl) (by kernel_rfl) (by rw [Tryz.underlying144]))
theorem cells_ref:Tryz.prog.cellsOf 144=3:=by kernel_rfl
theorem keytype_ref:Tryz.prog.keyType 144=true:=by kernel_rfl
def kbR (a b c:ByteArray):List UInt8:=keyBytes [.string a.data.toList, .string b.data.toList, .string c.data.toList]
theorem keyLits_ref (m:Nat) (a b c:ByteArray) (ha:a.size≤maxLen) (hb:b.size≤maxLen) (hc:c.size≤maxLen):Tryz.prog.keyLits (m+1+1) 144 [.string a, .string b, .string c]=some [.string a.data.toList, .string b.data.toList, .string c.data.toList]:=by
 unfold Program.keyLits
 simp only [Tryz.underlying144]
 rw [if_pos ⟨by rw [cells_ref];rfl,by simp⟩]
 simp only [List.mapM_cons,List.mapM_nil,cells_wstr]
 unfold Program.keyLits
 simp [Tryz.underlying9,ha,hb,hc]
theorem key_ofR (a b c:ByteArray) (ha:a.size≤maxLen) (hb:b.size≤maxLen) (hc:c.size≤maxLen):keyOf Tryz.prog 144 (.agg #[.string a, .string b, .string c])=some (.string (kbR a b c)):=by
 obtain⟨m,hm⟩:=types_wsize
 unfold keyOf
 simp only [Tryz.underlying144]
 rw [if_pos]
 ·rw [hm]
  show Option.map _ (Tryz.prog.keyLits (m+1+1) 144 [.string a, .string b, .string c])=_
  rw [keyLits_ref m a b c ha hb hc]
  rfl
 ·rw [keytype_ref]
  simp [Value.formed,Tryz.underlying144,cells_ref]
theorem kbR_inj {a b c a' b' c':ByteArray} (ha:a.size≤maxLen) (hb:b.size≤maxLen) (hc:c.size≤maxLen) (ha':a'.size≤maxLen) (hb':b'.size≤maxLen) (hc':c'.size≤maxLen) (h:kbR a b c=kbR a' b' c'):a=a':=by
 have h:=keyed_ref.inj (key_ofR a b c ha hb hc) (by rw [h];exact key_ofR a' b' c' ha' hb' hc')
 simp only [Value.agg.injEq,Array.mk.injEq,List.cons.injEq,Value.string.injEq,and_true,true_and] at h
 exact h.1
theorem keyed_one:Keyed Tryz.prog 141:=Keyed.of_law (deep_law (m:=5) (by omega) (by kernel_rfl) (by kernel_rfl) (by rw [Tryz.underlying141]))
theorem cells_one1:Tryz.prog.cellsOf 141=1:=by kernel_rfl
theorem keytype_one1:Tryz.prog.keyType 141=true:=by kernel_rfl
def kb1 (n:Int):List UInt8:=keyBytes [.int .i64 n]
theorem keyLits_one1 (m:Nat) (n:Int) (hn:I64 n):Tryz.prog.keyLits (m+1+1) 141 [.int .i64 n]=some [.int .i64 n]:=by
 unfold Program.keyLits
 simp only [Tryz.underlying141]
 rw [if_pos (by rw [cells_one1];rfl)]
 simp only [List.range_succ,List.range_zero,List.nil_append,List.mapM_cons,List.mapM_nil,cells_wint]
 unfold Program.keyLits
 simp [Tryz.underlying3,wf_i64 hn]
theorem key_of1 (n:Int) (hn:I64 n):keyOf Tryz.prog 141 (.agg #[.int .i64 n])=some (.string (kb1 n)):=by
 obtain⟨m,hm⟩:=types_wsize
 unfold keyOf
 simp only [Tryz.underlying141]
 rw [if_pos]
 ·rw [hm]
  show Option.map _ (Tryz.prog.keyLits (m+1+1) 141 [.int .i64 n])=_
  rw [keyLits_one1 m n hn]
  rfl
 ·rw [keytype_one1]
  simp [Value.formed,Tryz.underlying141,cells_one1]
theorem kb1_inj {n m:Int} (hn:I64 n) (hm:I64 m) (h:kb1 n=kb1 m):n=m:=by
 have h:=keyed_one.inj (key_of1 n hn) (by rw [h];exact key_of1 m hm)
 simp only [Value.agg.injEq,Array.mk.injEq,List.cons.injEq,Value.int.injEq,and_true,true_and] at h
 exact h
structure RefV where
 cls:ByteArray
 name:ByteArray
 desc:ByteArray
def RefV.cells (r:RefV):List Value:= [.string r.cls, .string r.name, .string r.desc]
theorem in_any (v:Value) (ml:List MemV) (r:RefV) (w:World) (h:SlAt w anyB 5 ml.length (ml.flatMap MemV.cells) v):
  Calls Tryz.prog 77 #[v, .agg r.cells.toArray] w fun e w'=> (∃i:Int,e= .returned (.int .i64 i)∧i<ml.length∧ -1≤i)∧Below w.heap.size w w':=by
 obtain⟨A,cap,rfl,hcap,hn⟩:=sl_len h
 obtain⟨rc,rn,rd⟩:=r
 have H:=Lib.hid h
 have X0:=Lib.hid (bx_new w [.string rc, .string rn, .string rd] 144)
 have HB0:=Lib.hid ((Below.refl w.heap.size w).alloc (Nat.le_refl _) (.cells #[.string rc, .string rn, .string rd] 144))
 clear h
 unfold RefV.cells
 go_enter Tryz.func77,Tryz.ntmps77
 go_wp2_with fail
 have hz0:(w.alloc (.cells #[.string rc, .string rn, .string rd] 144)).heap.size=w.heap.size+1:=by simp
 generalize w.alloc (.cells #[.string rc, .string rn, .string rd] 144)=w1 at*
 go_loopw [5,6,9] (fun _ _ kv wr=> ∃k:Nat,kv= .int .i64 k∧k≤ml.length∧Hid (Below w.heap.size w wr)∧Hid (Bx wr w.heap.size [.string rc, .string rn, .string rd] 144)) (fun _ _ kv _=>ml.length - (RowKit.intOf kv).toNat)
 case atStart=>exact⟨0,rfl,by omega,HB0,X0⟩
 case round=>
  obtain⟨k,rfl,hk,HB,HX⟩:=hrel
  have hz:=HB.out.size
  by_cases hlt:k<ml.length
  ·obtain⟨x,hx⟩: ∃x,ml[k]?=some x:=⟨_,List.getElem?_eq_getElem hlt⟩
   obtain⟨b,o,rfl,g1,a0,a1,a2,a3,a4⟩:=mrow_cells (H.out.keep (kept_any HB.out)) k x hx
   have HX1:=Lib.hid (HX.out.below ((Below.refl wr.heap.size wr).alloc (Nat.le_refl _) (.cells #[.int .i64 x.acc, .string x.name, .string x.desc, .bool x.has, .int .i64 x.value] 128)) HX.out.lt)
   have HB1:=Lib.hid (HB.out.alloc hz (.cells #[.int .i64 x.acc, .string x.name, .string x.desc, .bool x.has, .int .i64 x.value] 128))
   have c1:=HX1.out.cell 1 rfl
   have c2:=HX1.out.cell 2 rfl
   clear hx
   obtain⟨q,hq⟩: ∃q,(x.name.toList==rn.toList)=q:=⟨_,rfl⟩
   obtain⟨p,hp⟩: ∃p,(x.desc.toList==rd.toList)=p:=⟨_,rfl⟩
   cases q<;>cases p
   all_goals go_wp2_with fail
   all_goals first
    | (go_roundw
       case rel=>exact⟨k+1,by go_num,by omega,HB1,HX1⟩
       case measure=>simp [RowKit.intOf];omega)
    | (go_ret
       exact⟨⟨_,rfl,by omega,by omega⟩,HB1.out⟩)
  ·have hk':k=ml.length:=by omega
   subst hk'
   go_wp2_with fail
   go_ret
   exact⟨⟨_,rfl,by omega,by omega⟩,HB.out⟩
end Go.Proofs.YtpbnjakeielipaaGreatDoor
