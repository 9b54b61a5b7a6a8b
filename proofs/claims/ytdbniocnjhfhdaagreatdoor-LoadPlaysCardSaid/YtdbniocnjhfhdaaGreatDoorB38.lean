/- Part 38 of what the laws rest on: walks. Conditions: those that each theorem names. -/
import Derived.Test.YtdbniocnjhfhdaaGreatDoorB37
set_option linter.unusedSimpArgs false
set_option linter.unusedVariables false
set_option maxRecDepth 100000
set_option maxHeartbeats 2000000
namespace Go.Proofs.YtdbniocnjhfhdaaGreatDoor
open Go Go.RowKit Lib Go.Maps
theorem eqQ {w w':World} {ok:Nat→Prop} {s n G j:Nat} {cs:List Value} {v:Value} (h:bqm w ok s n cs v) (hb:Below w.heap.size w w') (hG: ∀g,ok g→g≠G) (x:Value):bqm (w'.setCell ⟨G,j,none⟩ x) ok s n cs v:=
 (h.keep (aqC.of_below hb)).keep (aqC.of_but ((But.refl w'.heap.size [G] w').set ⟨G,j,none⟩ (.inl Sp) x) (fun g hg hm=>hG g hg (by simpa using hm)))
theorem nqI (l:List bqK): ∀u∈l.flatMap bqK.cells,u.oneCell'=true:=by
 intro u hu
 obtain⟨k,_,hk⟩:=List.mem_flatMap.1 hu
 simp only [bqK.cells,List.mem_cons,List.not_mem_nil,or_false] at hk
 rcases hk with rfl|rfl|rfl|rfl<;>rfl
structure FlW (W:World) (G:Nat) (cs:List Value) (wk:World):Prop where
 bx:Bx wk G cs 58
 rx:Bx wk W.heap.size [.int .i64 0, .int .i64 0, .slice none 0 0, .int .i64 0, .int .i64 0, .int .i64 0, .slice none 0 0, .slice none 0 0, .slice none 0 0] 58
 bel:Below W.heap.size W wk
theorem FlW.below {W wk wq:World} {G:Nat} {cs:List Value} (h:FlW W G cs wk) (hb:Below wk.heap.size wk wq):FlW W G cs wq:=⟨h.bx.below hb h.bx.lt,h.rx.below hb h.rx.lt,h.bel.trans (hb.mono h.bel.size)⟩
theorem FlW.low {W wk wq:World} {G:Nat} {cs:List Value} (h:FlW W G cs wk) (hb:Below (G+1) wk wq) (hG:W.heap.size<G):FlW W G cs wq:=⟨h.bx.below hb Om,h.rx.below hb Om,h.bel.trans (hb.mono Om)⟩
theorem FlW.set {W wk:World} {G:Nat} {cs:List Value} (h:FlW W G cs wk) (hG:W.heap.size<G) (j:Nat) (u:Value):FlW W G (cs.set j u) (wk.setCell ⟨G,j,none⟩ u):=
 ⟨h.bx.set j u,h.rx.set_other _ _ (by show G≠_;omega),h.bel.setCell (p:=⟨G,j,none⟩) (by show _≤G;omega) u⟩
section
variable {B:Nat} {L:bqp} {nd:Nat} {defs:List UInt8→Option (List UInt8)} {files:List UInt8→Option aqc} {ks going:List (List UInt8)} {ts:List TyV} {v:Value} {W:World}
theorem nqJ (h:LdG B L nd defs files ks going ts v W) (s:ByteArray) (hs:s.size≤maxLen) {c:aqc} (hf:files s.data.toList=some c):
  Calls Tryz.prog 24 #[.pointer (some ⟨L.lb,0,none⟩), .string s] W fun e w'=> ∃p i f m,e= .returned (.tuple #[.agg (c.cells p i f m).toArray, .bool true])∧aqy w' (fun g=>W.heap.size≤g) c p i f m∧Below W.heap.size W w':=by
 obtain⟨ff,n,hn,hM,hA⟩:=h.hf
 have hA':=hA s.data.toList
 rw [hf] at hA'
 obtain⟨pv,iv,fv,mv,hff,hca⟩:=hA'
 obtain⟨Ap,kp,rfl,_,z1⟩:=aqd hca.hpool
 obtain⟨Ai,ki,rfl,_,z2⟩:=aqd hca.hifs
 obtain⟨Af,kf,rfl,_,z3⟩:=aqd hca.hflds
 obtain⟨ms,_,hms2,_⟩:=id hca.hmths
 obtain⟨Am,km,rfl,_,z4⟩:=aqd hms2
 have HN:=Hq (show ff s.data.toList=some (.agg #[.int .i64 c.minor, .int .i64 c.major, .slice Ap c.pool.length kp, .int .i64 c.acc, .int .i64 c.this, .int .i64 c.sup, .slice Ai c.ifs.length ki, .slice Af c.flds.length kf, .slice Am c.mths.length km]) from hff)
 have HCA:=Hq hca
 have HM:=Hq hM
 have hbf:=hM.lt
 have hc:=h.c1
 have hl:=h.lt
 have X0:=Hq (aql W aqz 58)
 have X1:=Hq (aql (W.alloc (.cells aqz.toArray 58)) aqz 58)
 have B1:=Hq (((Below.refl W.heap.size W).alloc Nr (.cells aqz.toArray 58)).alloc Sp (.cells aqz.toArray 58))
 have X0':=Hq (X0.out.below ((Below.refl (W.heap.size+1) (W.alloc (.cells aqz.toArray 58))).alloc Sp (.cells aqz.toArray 58)) Om)
 have hz1:((W.alloc (.cells aqz.toArray 58)).alloc (.cells aqz.toArray 58)).heap.size=W.heap.size+2:=by simp
 clear hM hA h hff hca hms2 hf
 simp only [World.size_alloc] at X1
 go_enter Tryz.func24,Tryz.ntmps24
 unfold aqz at X0 X1 B1 X0' hz1
 go_wp2_with (first
  | (at_lookup;refine cqs rfl _ _ rfl Tryz.underlying9 Tryz.underlying62 (z:= .agg #[.int .i64 0, .int .i64 0, .slice none 0 0, .int .i64 0, .int .i64 0, .int .i64 0, .slice none 0 0, .slice none 0 0, .slice none 0 0]) Kq9 rfl (HM.out.keep ((Rf9.alloc Nr _).block _ hbf)) rfl hs ?_;rw [HN.out])
  | (refine wpList_store_row rfl _ _ _ rfl (W.heap.size+1) _ rfl rfl _ _ X1.out Kq9 rfl Oc ?_;refine aqa ?_))
 refine aqb ?_
 obtain⟨G,hG⟩: ∃G,W.heap.size+1=G:=⟨_,rfl⟩
 have K2:=Hq (show FlW W (W.heap.size+1) [.int .i64 c.minor, .int .i64 c.major, .slice Ap c.pool.length kp, .int .i64 c.acc, .int .i64 c.this, .int .i64 c.sup, .slice Ai c.ifs.length ki, .slice Af c.flds.length kf, .slice Am c.mths.length km] (((W.alloc (.cells #[.int .i64 0, .int .i64 0, .slice none 0 0, .int .i64 0, .int .i64 0, .int .i64 0, .slice none 0 0, .slice none 0 0, .slice none 0 0] 58)).alloc (.cells #[.int .i64 0, .int .i64 0, .slice none 0 0, .int .i64 0, .int .i64 0, .int .i64 0, .slice none 0 0, .slice none 0 0, .slice none 0 0] 58)).setRow (W.heap.size+1) #[.int .i64 c.minor, .int .i64 c.major, .slice Ap c.pool.length kp, .int .i64 c.acc, .int .i64 c.this, .int .i64 c.sup, .slice Ai c.ifs.length ki, .slice Af c.flds.length kf, .slice Am c.mths.length km]) from
  ⟨X1.out.row [.int .i64 c.minor, .int .i64 c.major, .slice Ap c.pool.length kp, .int .i64 c.acc, .int .i64 c.this, .int .i64 c.sup, .slice Ai c.ifs.length ki, .slice Af c.flds.length kf, .slice Am c.mths.length km],(setRow_other _ (W.heap.size+1) W.heap.size #[.int .i64 c.minor, .int .i64 c.major, .slice Ap c.pool.length kp, .int .i64 c.acc, .int .i64 c.this, .int .i64 c.sup, .slice Ai c.ifs.length ki, .slice Af c.flds.length kf, .slice Am c.mths.length km] Om).trans X0'.out,aqH B1.out (W.heap.size+1) #[.int .i64 c.minor, .int .i64 c.major, .slice Ap c.pool.length kp, .int .i64 c.acc, .int .i64 c.this, .int .i64 c.sup, .slice Ai c.ifs.length ki, .slice Af c.flds.length kf, .slice Am c.mths.length km] Om⟩)
 have hz2:(((W.alloc (.cells #[.int .i64 0, .int .i64 0, .slice none 0 0, .int .i64 0, .int .i64 0, .int .i64 0, .slice none 0 0, .slice none 0 0, .slice none 0 0] 58)).alloc (.cells #[.int .i64 0, .int .i64 0, .slice none 0 0, .int .i64 0, .int .i64 0, .int .i64 0, .slice none 0 0, .slice none 0 0, .slice none 0 0] 58)).setRow (W.heap.size+1) #[.int .i64 c.minor, .int .i64 c.major, .slice Ap c.pool.length kp, .int .i64 c.acc, .int .i64 c.this, .int .i64 c.sup, .slice Ai c.ifs.length ki, .slice Af c.flds.length kf, .slice Am c.mths.length km]).heap.size=W.heap.size+2:=by simp
 generalize ((W.alloc (.cells #[.int .i64 0, .int .i64 0, .slice none 0 0, .int .i64 0, .int .i64 0, .int .i64 0, .slice none 0 0, .slice none 0 0, .slice none 0 0] 58)).alloc (.cells #[.int .i64 0, .int .i64 0, .slice none 0 0, .int .i64 0, .int .i64 0, .int .i64 0, .slice none 0 0, .slice none 0 0, .slice none 0 0] 58)).setRow (W.heap.size+1) #[.int .i64 c.minor, .int .i64 c.major, .slice Ap c.pool.length kp, .int .i64 c.acc, .int .i64 c.this, .int .i64 c.sup, .slice Ai c.ifs.length ki, .slice Af c.flds.length kf, .slice Am c.mths.length km]=w2 at*
 have hWG:W.heap.size<G:=by omega
 have hz2':G+1≤w2.heap.size:=by omega
 rw [hG] at K2⊢
 clear X0 X1 B1 X0' hz1 hz2 HM HN hbf hG
 have cN:=K2.out.bx.cell 2 rfl
 go_wp2_with (at_builtin;refine aqa ?_)
 refine aqb ?_
 clear cN
 have S1:=Hq (HCA.out.hpool.keep (aqC.of_below K2.out.bel))
 have L1:(c.pool.flatMap Ko.cells).length=c.pool.length*5:=by
  obtain⟨_,_,_,_,_,hl,_⟩:=S1.out
  exact hl
 refine cq4 rfl _ _ 53 rfl Tryz.underlying53 eqT rfl Om w2.heap.size rfl (World.ownsRow_nil _ _ _ _) rfl L1 S1.out.src (iqg _) Mz Om Nr ?_
 intro v' w' ho hgr hb
 have KX:=Hq (K2.out.below hb)
 have hzX:=hb.size
 have HOX:=aqF ho (Nat.zero_add _) (List.nil_append _)
 obtain⟨A1,k1,rfl,_⟩:=aqd (aqs HOX (fun _=>True) Om z1 (fun _ _=>trivial))
 have Q1:=Hq (eqQ (G:=G) (j:=2) (aqs HOX (fun g=>G+1≤g) Om z1 (fun g hg=>by have:=(HOX.lt g hg).1;omega)) Rf9 (fun g hg=>by omega) (.slice A1 c.pool.length k1))
 have cX:=KX.out.bx.cell 2 rfl
 have fX:=KX.out.bx.frozen 2
 have cN:=KX.out.bx.cell 6 rfl
 clear ho hgr hb S1 L1 K2 HOX
 go_wp2_with (at_builtin;refine aqa ?_)
 have K3:=Hq (show FlW W G [.int .i64 c.minor, .int .i64 c.major, .slice A1 c.pool.length k1, .int .i64 c.acc, .int .i64 c.this, .int .i64 c.sup, .slice Ai c.ifs.length ki, .slice Af c.flds.length kf, .slice Am c.mths.length km] (w'.setCell ⟨G,2,none⟩ (.slice A1 c.pool.length k1)) from KX.out.set hWG 2 _)
 have hz3':G+1≤(w'.setCell ⟨G,2,none⟩ (.slice A1 c.pool.length k1)).heap.size:=by simp;omega
 clear KX cX fX cN
 generalize w'.setCell ⟨G,2,none⟩ (.slice A1 c.pool.length k1)=w3 at*
 clear hzX hz2'
 refine aqb ?_
 have S2:=Hq (HCA.out.hifs.keep (aqC.of_below K3.out.bel))
 have L2:(c.ifs.map (Value.int .i64)).length=c.ifs.length*1:=by
  obtain⟨_,_,_,_,_,hl,_⟩:=S2.out
  exact hl
 refine cq4 rfl _ _ 54 rfl Tryz.underlying54 gqK rfl Om w3.heap.size rfl (World.ownsRow_nil _ _ _ _) rfl L2 S2.out.src (nqH _ _) Mz Om Nr ?_
 intro v' w' ho hgr hb
 have KX:=Hq (K3.out.below hb)
 have hzX:=hb.size
 have HOX:=aqF ho (Nat.zero_add _) (List.nil_append _)
 obtain⟨A2,k2,rfl,_⟩:=aqd (aqs HOX (fun _=>True) Om z2 (fun _ _=>trivial))
 have Q2:=Hq (eqQ (G:=G) (j:=6) (aqs HOX (fun g=>G+1≤g) Om z2 (fun g hg=>by have:=(HOX.lt g hg).1;omega)) Rf9 (fun g hg=>by omega) (.slice A2 c.ifs.length k2))
 have Q1n:=Hq (eqQ (G:=G) (j:=6) Q1.out hb (fun g hg=>by omega) (.slice A2 c.ifs.length k2))
 clear Q1
 have Q1:=Q1n
 clear Q1n
 have cX:=KX.out.bx.cell 6 rfl
 have fX:=KX.out.bx.frozen 6
 have cN:=KX.out.bx.cell 7 rfl
 clear ho hgr hb S2 L2 K3 HOX
 go_wp2_with (at_builtin;refine aqa ?_)
 have K4:=Hq (show FlW W G [.int .i64 c.minor, .int .i64 c.major, .slice A1 c.pool.length k1, .int .i64 c.acc, .int .i64 c.this, .int .i64 c.sup, .slice A2 c.ifs.length k2, .slice Af c.flds.length kf, .slice Am c.mths.length km] (w'.setCell ⟨G,6,none⟩ (.slice A2 c.ifs.length k2)) from KX.out.set hWG 6 _)
 have hz4':G+1≤(w'.setCell ⟨G,6,none⟩ (.slice A2 c.ifs.length k2)).heap.size:=by simp;omega
 clear KX cX fX cN
 generalize w'.setCell ⟨G,6,none⟩ (.slice A2 c.ifs.length k2)=w4 at*
 clear hzX hz3'
 refine aqb ?_
 have S3:=Hq (HCA.out.hflds.keep (aqC.of_below K4.out.bel))
 have L3:(c.flds.flatMap aqq.cells).length=c.flds.length*4:=by
  obtain⟨_,_,_,_,_,hl,_⟩:=S3.out
  exact hl
 refine cq4 rfl _ _ 55 rfl Tryz.underlying55 eqU rfl Om w4.heap.size rfl (World.ownsRow_nil _ _ _ _) rfl L3 S3.out.src (gq9 _) Mz Om Nr ?_
 intro v' w' ho hgr hb
 have KX:=Hq (K4.out.below hb)
 have hzX:=hb.size
 have HOX:=aqF ho (Nat.zero_add _) (List.nil_append _)
 obtain⟨A3,k3,rfl,_⟩:=aqd (aqs HOX (fun _=>True) Om z3 (fun _ _=>trivial))
 have Q3:=Hq (eqQ (G:=G) (j:=7) (aqs HOX (fun g=>G+1≤g) Om z3 (fun g hg=>by have:=(HOX.lt g hg).1;omega)) Rf9 (fun g hg=>by omega) (.slice A3 c.flds.length k3))
 have Q1n:=Hq (eqQ (G:=G) (j:=7) Q1.out hb (fun g hg=>by omega) (.slice A3 c.flds.length k3))
 clear Q1
 have Q1:=Q1n
 clear Q1n
 have Q2n:=Hq (eqQ (G:=G) (j:=7) Q2.out hb (fun g hg=>by omega) (.slice A3 c.flds.length k3))
 clear Q2
 have Q2:=Q2n
 clear Q2n
 have cX:=KX.out.bx.cell 7 rfl
 have fX:=KX.out.bx.frozen 7
 have cN:=KX.out.bx.cell 8 rfl
 clear ho hgr hb S3 L3 K4 HOX
 go_wp2_with fail
 have K5:=Hq (show FlW W G [.int .i64 c.minor, .int .i64 c.major, .slice A1 c.pool.length k1, .int .i64 c.acc, .int .i64 c.this, .int .i64 c.sup, .slice A2 c.ifs.length k2, .slice A3 c.flds.length k3, .slice Am c.mths.length km] (w'.setCell ⟨G,7,none⟩ (.slice A3 c.flds.length k3)) from KX.out.set hWG 7 _)
 have hz5':G+1≤(w'.setCell ⟨G,7,none⟩ (.slice A3 c.flds.length k3)).heap.size:=by simp;omega
 clear KX cX fX cN
 generalize w'.setCell ⟨G,7,none⟩ (.slice A3 c.flds.length k3)=w5 at*
 clear hzX hz4'
 obtain⟨wx,hwx⟩: ∃u,u=w5:=⟨_,rfl⟩
 subst hwx
 obtain⟨M,hM⟩: ∃M,wx.heap.size=M:=⟨_,rfl⟩
 have hGM:G<M:=by omega
 have HM:=Hq hM
 clear hM hz5'
 go_loopw [8,38] (fun o i wr=> ∃(k:Nat) (ks:List (aqr×Value×Value)) (ov:Value),ov=o∧k≤c.mths.length∧i= .int .i64 k∧Hid (ks.map (·.1)=c.mths.take k)∧Hid (FlW W G [.int .i64 c.minor, .int .i64 c.major, .slice A1 c.pool.length k1, .int .i64 c.acc, .int .i64 c.this, .int .i64 c.sup, .slice A2 c.ifs.length k2, .slice A3 c.flds.length k3, .slice Am c.mths.length km] wr)∧Hid (Below M wx wr)∧Hid (wr.ownsRow M 91 8 ov k (bqs ks))∧Hid (∀q∈ks,aqO wr (fun g=>M≤g∧ov.ownBlock≠some g) q.1 q.2.1 q.2.2)) (fun _ i _=>c.mths.length - (RowKit.intOf i).toNat)
 case atStart=>exact⟨0, [],_,rfl,by omega,rfl,Hq rfl,K5,Hq Rf9,Hq (World.ownsRow_nil _ _ _ _),Hq Sp⟩
 case round=>
  obtain⟨k,ks,ov,rfl,hk,rfl,HKS,Kr,HBr,HO,HME⟩:=hrel
  by_cases hlt:k<c.mths.length
  ·obtain⟨ms',e1,e2,e3⟩:=(HCA.out.keep (aqC.of_below Kr.out.bel)).hmths
   have hml':ms'.length=c.mths.length:=by rw [←e1,List.length_map]
   obtain⟨x,cv,tv,hx'⟩: ∃x cv tv,ms'[k]?=some (x,cv,tv):=⟨_,_,_,List.getElem?_eq_getElem Om⟩
   have hx:c.mths[k]?=some x:=by rw [←e1,List.getElem?_map,hx'];rfl
   obtain⟨b,off,rfl,hbl,p0,p1,p2,p3,p4,p5,p6,p7⟩:=dqf e2 hml' k x cv tv hx'
   have hME:=e3 (x,cv,tv) (List.mem_of_getElem? hx')
   obtain⟨Ac,kc,hcv,_,y1⟩:=aqd hME.hcode
   obtain⟨At,kt,htv,_,y2⟩:=aqd hME.htraps
   simp only at hcv htv
   subst hcv
   subst htv
   have HX:=Hq (show c.mths.take (k+1)=c.mths.take k++ [x] by rw [List.take_add_one,hx];rfl)
   have HCX:=Hq hME.hcode
   have HTX:=Hq hME.htraps
   simp only at y1 y2 HCX HTX
   have hzr:=HBr.out.size
   have hMr:M≤wr.heap.size:=by have:=HM.out;omega
   obtain⟨x1,x2,x3,x4,x5,x6,x7,x8,x9,x10,x11,x12⟩:=far b wr.heap.size hbl
   clear hx hx' e1 e2 e3 hml' hME
   have X0:=Hq (aql wr [.int .i64 x.acc, .int .i64 x.name, .int .i64 x.desc, .bool x.has, .int .i64 x.stack, .int .i64 x.locals, .slice Ac x.code.length kc, .slice At x.traps.length kt] 91)
   have D0:=Hq ((Below.refl wr.heap.size wr).alloc Nr (.cells #[.int .i64 x.acc, .int .i64 x.name, .int .i64 x.desc, .bool x.has, .int .i64 x.stack, .int .i64 x.locals, .slice Ac x.code.length kc, .slice At x.traps.length kt] 91))
   have SC:=Hq (HCX.out.keep (aqC.of_below D0.out)).src
   have LC:(x.code.map bV).length=x.code.length*1:=by simp
   have LT:(x.traps.flatMap bqK.cells).length=x.traps.length*4:=by
    obtain⟨_,_,_,_,_,hl,_⟩:=HTX.out
    exact hl
   have HLC:=Hq LC
   have HLT:=Hq LT
   clear LC LT
   go_wp2_with (at_builtin;refine cq4 rfl _ _ 27 rfl Tryz.underlying27 bq5 rfl Om (wr.heap.size+1) rfl (World.ownsRow_nil _ _ _ _) rfl HLC.out SC.out (fun u hu=>by obtain⟨_,_,rfl⟩:=List.mem_map.1 hu;rfl) Mz Om Sp ?_;intro v' w' ho hgr hb;refine aqa ?_)
   have HO1:=Hq (aqF ho (Nat.zero_add _) (List.nil_append _))
   have X1:=Hq (X0.out.below hb Om)
   have D1:=Hq (D0.out.trans (hb.mono Om))
   have hz1:wr.heap.size+1≤w'.heap.size:=by have:=hb.size;simpa using this
   obtain⟨Ad,kd,rfl,_⟩:=aqd (aqs HO1.out (fun _=>True) Om y1 (fun _ _=>trivial))
   have HC1:=Hq (aqs HO1.out (fun g=>wr.heap.size+1≤g) Om y1 (fun g hg=> (HO1.out.lt g hg).1))
   have c6:=X1.out.cell 6 rfl
   have f6:=X1.out.frozen 6
   clear ho hgr hb X0 D0 SC p0 p1 p2 p3 p4 p5 p6 p7
   refine aqb ?_
   have X2:=Hq (show Bx (w'.setCell ⟨wr.heap.size,6,none⟩ (.slice Ad x.code.length kd)) wr.heap.size [.int .i64 x.acc, .int .i64 x.name, .int .i64 x.desc, .bool x.has, .int .i64 x.stack, .int .i64 x.locals, .slice Ad x.code.length kd, .slice At x.traps.length kt] 91 from X1.out.set 6 _)
   have D2:=Hq (D1.out.setCell (p:=⟨wr.heap.size,6,none⟩) Nr (.slice Ad x.code.length kd))
   have HC2:=Hq (eqQ (G:=wr.heap.size) (j:=6) HC1.out Rf9 (fun g hg=>by omega) (.slice Ad x.code.length kd))
   have ST:=Hq (HTX.out.keep (aqC.of_below D2.out)).src
   have c7:=X2.out.cell 7 rfl
   have hz2:wr.heap.size+1≤(w'.setCell ⟨wr.heap.size,6,none⟩ (.slice Ad x.code.length kd)).heap.size:=by simpa using hz1
   go_wp2_with (at_builtin;refine cq4 rfl _ _ 89 rfl Tryz.underlying89 hqk rfl Om (wr.heap.size+1) rfl (World.ownsRow_nil _ _ _ _) rfl HLT.out ST.out (nqI _) Mz Om Sd ?_;intro v' w3 ho hgr hb;refine aqa ?_)
   have HO3:=Hq (aqF ho (Nat.zero_add _) (List.nil_append _))
   have X3:=Hq (X2.out.below hb Om)
   have D3:=Hq (D2.out.trans (hb.mono Om))
   have hz3:wr.heap.size+1≤w3.heap.size:=by have:=hb.size;omega
   obtain⟨Au,ku,rfl,_⟩:=aqd (aqs HO3.out (fun _=>True) Om y2 (fun _ _=>trivial))
   have HT3:=Hq (aqs HO3.out (fun g=>wr.heap.size+1≤g) Om y2 (fun g hg=> (HO3.out.lt g hg).1))
   have HC3:=Hq (HC2.out.keep (w':=w3) ⟨hb.size,fun g hg ho' o=>World.cell?_of_block (w:=_) (hgr.block g hg (fun e=>by cases (show(some g:Option Nat)=none from e)))⟩)
   have c7':=X3.out.cell 7 rfl
   have f7:=X3.out.frozen 7
   clear ho hgr hb X1 D1 HC1 X2 D2 HC2 ST c6 f6 c7 hz1 hz2
   refine aqb ?_
   go_upto_region 13 with fail
   have X4:=Hq (show Bx (w3.setCell ⟨wr.heap.size,7,none⟩ (.slice Au x.traps.length ku)) wr.heap.size [.int .i64 x.acc, .int .i64 x.name, .int .i64 x.desc, .bool x.has, .int .i64 x.stack, .int .i64 x.locals, .slice Ad x.code.length kd, .slice Au x.traps.length ku] 91 from X3.out.set 7 _)
   have D4:=Hq (D3.out.setCell (p:=⟨wr.heap.size,7,none⟩) Nr (.slice Au x.traps.length ku))
   have HC4:=Hq (eqQ (G:=wr.heap.size) (j:=7) HC3.out Rf9 (fun g hg=>by omega) (.slice Au x.traps.length ku))
   have HT4:=Hq (eqQ (G:=wr.heap.size) (j:=7) HT3.out Rf9 (fun g hg=>by omega) (.slice Au x.traps.length ku))
   have hz4:wr.heap.size+1≤(w3.setCell ⟨wr.heap.size,7,none⟩ (.slice Au x.traps.length ku)).heap.size:=by simpa using hz3
   clear X3 D3 HC3 HT3 c7' f7 hz3
   generalize w3.setCell ⟨wr.heap.size,7,none⟩ (.slice Au x.traps.length ku)=w4 at*
   have HO4:=Hq (aqj HO.out fun q hq=>D4.out.block q (HO.out.lt q hq).2)
   have y0:=X4.out.cell 0 rfl
   have z1:=X4.out.cell 1 rfl
   have z2:=X4.out.cell 2 rfl
   have z3:=X4.out.cell 3 rfl
   have z4:=X4.out.cell 4 rfl
   have z5:=X4.out.cell 5 rfl
   have z6:=X4.out.cell 6 rfl
   have z7:=X4.out.cell 7 rfl
   go_wp2_with (at_builtin;refine bqi rfl _ _ 56 rfl Tryz.underlying56 eqr rfl Om M rfl (HO4.out.alloc _) rfl rfl (fun _=> ⟨_,rfl,aqm _ _ _ _ rfl⟩) Oc Om Mz Om Sd ?_;intro g6 c6 w6 ho6 hg6 hb6 hgg6 hlt6;refine aqa ?_)
   have D5:=Hq (D4.out.alloc Om (.cells #[.int .i64 x.acc, .int .i64 x.name, .int .i64 x.desc, .bool x.has, .int .i64 x.stack, .int .i64 x.locals, .slice Ad x.code.length kd, .slice Au x.traps.length ku] 91))
   have D6:=Hq ((D5.out.mono (B':=M) hMr).trans hb6)
   have HO6:=Hq (aqF ho6 rfl (show bqs ks++_=bqs (ks++ [(x, .slice Ad x.code.length kd, .slice Au x.traps.length ku)]) by simp [bqs,aqr.cells]))
   have HM6:=Hq (show∀q∈ks++ [(x, .slice Ad x.code.length kd, .slice Au x.traps.length ku)],aqO w6 (fun g=>M≤g∧(Value.slice (some ⟨g6,0,none⟩) (k+1) c6).ownBlock≠some g) q.1 q.2.1 q.2.2 from fun q hq=>by
    have hk6:aqC (fun g=> (M≤g∧ov.ownBlock≠some g)∧g<w4.heap.size) (w4.alloc (.cells #[.int .i64 x.acc, .int .i64 x.name, .int .i64 x.desc, .bool x.has, .int .i64 x.stack, .int .i64 x.locals, .slice Ad x.code.length kd, .slice Au x.traps.length ku] 91)) w6:=⟨hg6.size,fun g hgl hok off=>World.cell?_of_block (w:=_) (hg6.block g hgl (fun e=>hok.1.2 e.symm))⟩
    have hne: ∀g,(M≤g∧ov.ownBlock≠some g)∧g<w4.heap.size→M≤g∧(Value.slice (some ⟨g6,0,none⟩) (k+1) c6).ownBlock≠some g:=fun g hok=> ⟨hok.1.1,fun e=>by
     have e':g6=g:=by simpa [Value.ownBlock] using e
     subst e'
     rcases hgg6 with hgg|hgg
     ·exact hok.1.2 hgg
     have:=hok.2
     simp at hgg
     omega⟩
    have fin: ∀{s n:Nat} {cs:List Value} {u:Value},bqm w4 (fun g=> (M≤g∧ov.ownBlock≠some g)∧g<w4.heap.size) s n cs u→bqm w6 (fun g=>M≤g∧(Value.slice (some ⟨g6,0,none⟩) (k+1) c6).ownBlock≠some g) s n cs u:=fun hu=> ((hu.keep (aqC.of_below (Rf9.alloc Nr _))).keep hk6).mono fun g _ hg=>hne g hg
    rcases List.mem_append.1 hq with hq|hq
    ·have:=HME.out q hq
     exact⟨fin ((this.hcode.keep (aqC.of_below D4.out)).mono fun g h1 h2=> ⟨h2,h1⟩),fin ((this.htraps.keep (aqC.of_below D4.out)).mono fun g h1 h2=> ⟨h2,h1⟩)⟩
    obtain rfl:q=(x, .slice Ad x.code.length kd, .slice Au x.traps.length ku):=by simpa using hq
    exact⟨fin (HC4.out.mono fun g h1 h2=> ⟨⟨by omega,fun e=>by have:=(HO.out.lt g e).2;omega⟩,h1⟩),fin (HT4.out.mono fun g h1 h2=> ⟨⟨by omega,fun e=>by have:=(HO.out.lt g e).2;omega⟩,h1⟩)⟩)
   have HK6:=Hq (show(ks++ [((x, .slice Ad x.code.length kd, .slice Au x.traps.length ku):aqr×Value×Value)]).map (·.1)=c.mths.take (k+1) by rw [HX.out,List.map_append,HKS.out];rfl)
   clear ho6 hg6 hb6 hgg6
   refine aqb ?_
   go_wp2_with fail
   go_roundw
   case rel=>exact⟨k+1,_,_,rfl,by omega,by go_num,HK6,Hq (Kr.out.low (D6.out.mono Om) hWG),Hq (HBr.out.trans D6.out),HO6,HM6⟩
   case measure=>simp [RowKit.intOf];omega
  have hke:k=c.mths.length:=by omega
  subst hke
  obtain⟨A8,k8,rfl,_⟩:=aqd (aqs HO.out (fun _=>True) Om z4 (fun _ _=>trivial))
  have c8:=Kr.out.bx.cell 8 rfl
  have f8:=Kr.out.bx.frozen 8
  have K6:=Hq (show FlW W G [.int .i64 c.minor, .int .i64 c.major, .slice A1 c.pool.length k1, .int .i64 c.acc, .int .i64 c.this, .int .i64 c.sup, .slice A2 c.ifs.length k2, .slice A3 c.flds.length k3, .slice A8 c.mths.length k8] (wr.setCell ⟨G,8,none⟩ (.slice A8 c.mths.length k8)) from Kr.out.set hWG 8 _)
  go_wp2_with (first
   | (refine wpList_load_row rfl _ _ rfl G rfl _ _ _ _ K6.out.bx Tryz.underlying58 rfl Kq9 ?_)
   | (refine wpList_store_row rfl _ _ _ rfl W.heap.size _ rfl rfl _ _ K6.out.rx Kq9 rfl Oc ?_))
  have hk1: ∀{ok:Nat→Prop} {w7:World},aqC ok wr w7→(∀g,ok g→W.heap.size<g∧g≠G)→aqC ok wr ((wr.setCell ⟨G,8,none⟩ (.slice A8 c.mths.length k8)).setRow W.heap.size #[.int .i64 c.minor, .int .i64 c.major, .slice A1 c.pool.length k1, .int .i64 c.acc, .int .i64 c.this, .int .i64 c.sup, .slice A2 c.ifs.length k2, .slice A3 c.flds.length k3, .slice A8 c.mths.length k8]):=fun _ hok=> ⟨by simp,fun g hg ho' off=> (World.cell?_of_block (w:=wr.setCell ⟨G,8,none⟩ (.slice A8 c.mths.length k8)) (setRow_other _ _ _ _ (by have:=(hok g ho').1;show g≠W.heap.size;omega))).trans (World.cell?_of_block (w:=wr) (Below.heap_setCell _ _ _ _ (by have:=(hok g ho').2;show _≠_;omega)))⟩
  have hbr:=HBr.out
  refine bodyPost_ret (bqy rfl rfl rfl (K6.out.rx.row [.int .i64 c.minor, .int .i64 c.major, .slice A1 c.pool.length k1, .int .i64 c.acc, .int .i64 c.this, .int .i64 c.sup, .slice A2 c.ifs.length k2, .slice A3 c.flds.length k3, .slice A8 c.mths.length k8]) rfl rfl Kq9) rfl ?_
  refine⟨.slice A1 c.pool.length k1, .slice A2 c.ifs.length k2, .slice A3 c.flds.length k3, .slice A8 c.mths.length k8,rfl, ?_,aqH K6.out.bel _ _ Nr⟩
  have hw:aqC (fun g=>G+1≤g∧g<M) wx wr:=⟨hbr.size,fun g hg ho' off=>World.cell?_of_block (w:=wx) (hbr.block g ho'.2)⟩
  have top: ∀{s n:Nat} {cs:List Value} {u:Value},bqm wx (fun g=>G+1≤g) s n cs u→bqm ((wr.setCell ⟨G,8,none⟩ (.slice A8 c.mths.length k8)).setRow W.heap.size #[.int .i64 c.minor, .int .i64 c.major, .slice A1 c.pool.length k1, .int .i64 c.acc, .int .i64 c.this, .int .i64 c.sup, .slice A2 c.ifs.length k2, .slice A3 c.flds.length k3, .slice A8 c.mths.length k8]) (fun g=>W.heap.size≤g) s n cs u:=fun hu=>
   (((hu.mono (ok':=fun g=>G+1≤g∧g<M) fun g h1 h2=> ⟨h2,by have:=HM.out;omega⟩).keep hw).keep (hk1 (w7:=wr) ⟨Nat.le_refl _,fun _ _ _ _=>rfl⟩ fun g hg=>by omega)).mono fun g _ hg=>by omega
  have low: ∀{s n:Nat} {cs:List Value} {u:Value} {ok:Nat→Prop},bqm wr ok s n cs u→(∀g,ok g→M≤g)→bqm ((wr.setCell ⟨G,8,none⟩ (.slice A8 c.mths.length k8)).setRow W.heap.size #[.int .i64 c.minor, .int .i64 c.major, .slice A1 c.pool.length k1, .int .i64 c.acc, .int .i64 c.this, .int .i64 c.sup, .slice A2 c.ifs.length k2, .slice A3 c.flds.length k3, .slice A8 c.mths.length k8]) (fun g=>W.heap.size≤g) s n cs u:=fun hu hok=>
   (hu.keep (hk1 (w7:=wr) ⟨Nat.le_refl _,fun _ _ _ _=>rfl⟩ fun g hg=>by have:=hok g hg;omega)).mono fun g _ hg=>by have:=hok g hg;omega
  have hmm:=HKS.out
  rw [List.take_length] at hmm
  exact⟨top Q1.out,top Q2.out,top Q3.out,ks,hmm,low (aqs HO.out (fun g=>M≤g) Om z4 (fun g hg=> (HO.out.lt g hg).1)) (fun g hg=>hg),fun q hq=> ⟨low (HME.out q hq).hcode (fun g hg=>hg.1),low (HME.out q hq).htraps (fun g hg=>hg.1)⟩⟩
end
end Go.Proofs.YtdbniocnjhfhdaaGreatDoor
set_option maxHeartbeats 4000000
namespace Go.Proofs.YtdbniocnjhfhdaaGreatDoor
open Go Go.RowKit Lib
theorem mqq (w:World) (a:Int) (n d:ByteArray) (h:Bool) (v:Int):(binOp .neq 52 (.agg #[.int .i64 a, .string n, .string d, .bool h, .int .i64 v]) (.agg #[.int .i64 a, .string n, .string d, .bool h, .int .i64 v])).run Tryz.prog w= .ok (.bool false) w:=by
 go_simp
structure oqz (w:World) (ca cb:List Value) (wr:World):Prop where
 bel:Below w.heap.size w wr
 x1:Bx wr w.heap.size ca 39
 x2:Bx wr (w.heap.size+1) cb 39
theorem oqz.below {w W W':World} {ca cb:List Value} (h:oqz w ca cb W) (hb:Below W.heap.size W W'):oqz w ca cb W':=
 ⟨h.bel.trans (hb.mono h.bel.size),h.x1.below hb h.x1.lt,h.x2.below hb h.x2.lt⟩
theorem iqh {w:World} {ok:Nat→Prop} {l:List ByteArray} {A:Option Addr} {cap:Nat} (h:bqm w ok 1 l.length (l.map .string) (.slice A l.length cap)): ∀(k:Nat) (x:ByteArray),l[k]?=some x→ ∃b off,A=some ⟨b,off,none⟩∧b<w.heap.size∧w.cell? ⟨b,off+k,none⟩=some (.string x):=by
 intro k x hk
 obtain⟨A',cap',e,_,_,_,h5⟩:=h
 cases e
 obtain⟨b,off,e,hlt,_,hc⟩:=h5 (by have:=(List.getElem?_eq_some_iff.1 hk).1;omega)
 exact⟨b,off,e,hlt,hc _ _ (by rw [List.getElem?_map,hk];rfl)⟩
theorem dqF {w:World} {ok:Nat→Prop} {l:List cqW} {A:Option Addr} {cap:Nat} (h:bqm w ok 5 l.length (l.flatMap cqW.cells) (.slice A l.length cap)): ∀(k:Nat) (x:cqW),l[k]?=some x→ ∃b off,A=some ⟨b,off,none⟩∧b<w.heap.size∧
  w.cell? ⟨b,off+k*5,none⟩=some (.int .i64 x.acc)∧w.cell? ⟨b,off+k*5+1,none⟩=some (.string x.name)∧w.cell? ⟨b,off+k*5+2,none⟩=some (.string x.desc)∧w.cell? ⟨b,off+k*5+3,none⟩=some (.bool x.has)∧w.cell? ⟨b,off+k*5+4,none⟩=some (.int .i64 x.value):=by
 intro k x hk
 obtain⟨A',cap',e,_,_,_,h5⟩:=h
 cases e
 obtain⟨b,off,e,hlt,_,hc⟩:=h5 (by have:=(List.getElem?_eq_some_iff.1 hk).1;omega)
 have hr:=cqL cqW.cells 5 (fun _=>rfl) l k x hk
 exact⟨b,off,e,hlt,hc _ _ ((hr 0 Om).trans rfl),hc _ _ ((hr 1 Om).trans rfl),hc _ _ ((hr 2 Om).trans rfl),hc _ _ ((hr 3 Om).trans rfl),hc _ _ ((hr 4 Om).trans rfl)⟩
theorem mqr (t:cqO) (a1 a2 a3 b1 b2 b3:Value) (ok1 ok2:Nat→Prop) (w:World) (h1:dqX w ok1 t a1 a2 a3) (h2:dqX w ok2 t b1 b2 b3):
  Calls Tryz.prog 37 #[.agg (t.vals a1 a2 a3).toArray, .agg (t.vals b1 b2 b3).toArray] w fun e w'=>e= .returned (.bool true)∧Below w.heap.size w w':=by
 obtain⟨I1,i1,rfl,_,zi1⟩:=aqd h1.hi
 obtain⟨F1,f1,rfl,_,zf1⟩:=aqd h1.hf
 obtain⟨M1,m1,rfl,_,zm1⟩:=aqd h1.hm
 obtain⟨I2,i2,rfl,_,zi2⟩:=aqd h2.hi
 obtain⟨F2,f2,rfl,_,zf2⟩:=aqd h2.hf
 obtain⟨M2,m2,rfl,_,zm2⟩:=aqd h2.hm
 have HI1:=Hq h1.hi
 have HI2:=Hq h2.hi
 have HF1:=Hq h1.hf
 have HF2:=Hq h2.hf
 have HM1:=Hq h1.hm
 have HM2:=Hq h2.hm
 obtain⟨nm,sp,acc,ifs,flds,mths⟩:=t
 unfold cqO.vals
 simp only at HI1 HI2 HF1 HF2 HM1 HM2 zi1 zf1 zm1 zi2 zf2 zm2⊢
 clear h1 h2
 obtain⟨CA,hCA⟩: ∃l:List Value,l= [.string nm, .string sp, .int .i64 acc, .slice I1 ifs.length i1, .slice F1 flds.length f1, .slice M1 mths.length m1]:=⟨_,rfl⟩
 obtain⟨CB,hCB⟩: ∃l:List Value,l= [.string nm, .string sp, .int .i64 acc, .slice I2 ifs.length i2, .slice F2 flds.length f2, .slice M2 mths.length m2]:=⟨_,rfl⟩
 have DUO0:=show oqz w CA CB ((w.alloc (.cells CA.toArray 39)).alloc (.cells CB.toArray 39)) from⟨(Rf9.alloc Nr _).alloc Sp _,(aql w _ _).below (Rf9.alloc Nr _) Sp,aqh _ _ _ _ Sp⟩
 subst hCA hCB
 have DUO:=Hq DUO0
 clear DUO0
 go_enter Tryz.func37,Tryz.ntmps37
 go_wp2_with fail
 go_loopw [5] (fun i wr=> ∃k:Nat,k≤ifs.length∧i= .int .i64 k∧Hid (oqz w [.string nm, .string sp, .int .i64 acc, .slice I1 ifs.length i1, .slice F1 flds.length f1, .slice M1 mths.length m1] [.string nm, .string sp, .int .i64 acc, .slice I2 ifs.length i2, .slice F2 flds.length f2, .slice M2 mths.length m2] wr)) (fun i _=>ifs.length - (RowKit.intOf i).toNat)
 case atStart=>exact⟨0,by omega,rfl,DUO⟩
 case round=>
  obtain⟨k,hk,rfl,HD⟩:=hrel
  have c1:=HD.out.x1.cell 3 rfl
  have c2:=HD.out.x2.cell 3 rfl
  by_cases hlt:k<ifs.length
  ·obtain⟨x,hx⟩: ∃x,ifs[k]?=some x:=⟨_,List.getElem?_eq_getElem hlt⟩
   obtain⟨b1,o1,rfl,g1,a0⟩:=iqh (HI1.out.keep (aqC.of_below HD.out.bel)) k x hx
   obtain⟨b2,o2,rfl,g2,e0⟩:=iqh (HI2.out.keep (aqC.of_below HD.out.bel)) k x hx
   have HDn:=Hq (fun m=>HD.out.below (below_drewN (Below.refl wr.heap.size wr) m))
   clear hx
   go_wp2_with fail
   go_quiet (fail)
   go_wp2_with fail
   go_roundw
   case rel=>exact⟨k+1,by omega,by go_num,Hq (HDn.out _)⟩
   case measure=>simp [RowKit.intOf];omega
  go_wp2_with fail
  clear c1 c2 hlt hk
  go_loopw [6] (fun i wr=> ∃k:Nat,k≤flds.length∧i= .int .i64 k∧Hid (oqz w [.string nm, .string sp, .int .i64 acc, .slice I1 ifs.length i1, .slice F1 flds.length f1, .slice M1 mths.length m1] [.string nm, .string sp, .int .i64 acc, .slice I2 ifs.length i2, .slice F2 flds.length f2, .slice M2 mths.length m2] wr)) (fun i _=>flds.length - (RowKit.intOf i).toNat)
  case atStart=>exact⟨0,by omega,rfl,HD⟩
  case round=>
   obtain⟨k,hk,rfl,HD⟩:=hrel
   have c1:=HD.out.x1.cell 4 rfl
   have c2:=HD.out.x2.cell 4 rfl
   by_cases hlt:k<flds.length
   ·obtain⟨x,hx⟩: ∃x,flds[k]?=some x:=⟨_,List.getElem?_eq_getElem hlt⟩
    obtain⟨b1,o1,rfl,g1,a0,a1,a2,a3,a4⟩:=dqF (HF1.out.keep (aqC.of_below HD.out.bel)) k x hx
    obtain⟨b2,o2,rfl,g2,e0,e1,e2,e3,e4⟩:=dqF (HF2.out.keep (aqC.of_below HD.out.bel)) k x hx
    have hnq:=mqq
    have HDn:=Hq (fun m=>HD.out.below (below_drewN (Below.refl wr.heap.size wr) m))
    clear hx
    go_wp2_with fail
    go_quiet (fail)
    go_wp2_with fail
    go_roundw
    case rel=>exact⟨k+1,by omega,by go_num,Hq (HDn.out _)⟩
    case measure=>simp [RowKit.intOf];omega
   have HD0:=HD
   go_wp2_with fail
   clear c1 c2 hlt hk
   go_loopw [7] (fun i wr=> ∃k:Nat,k≤mths.length∧i= .int .i64 k∧Hid (oqz w [.string nm, .string sp, .int .i64 acc, .slice I1 ifs.length i1, .slice F1 flds.length f1, .slice M1 mths.length m1] [.string nm, .string sp, .int .i64 acc, .slice I2 ifs.length i2, .slice F2 flds.length f2, .slice M2 mths.length m2] wr)) (fun i _=>mths.length - (RowKit.intOf i).toNat)
   case atStart=>exact⟨0,by omega,rfl,HD0⟩
   case round=>
    obtain⟨k,hk,rfl,HD⟩:=hrel
    have c1:=HD.out.x1.cell 5 rfl
    have c2:=HD.out.x2.cell 5 rfl
    by_cases hlt:k<mths.length
    ·obtain⟨x,hx⟩: ∃x,mths[k]?=some x:=⟨_,List.getElem?_eq_getElem hlt⟩
     obtain⟨b1,o1,rfl,g1,a0,a1,a2,a3,a4⟩:=dqF (HM1.out.keep (aqC.of_below HD.out.bel)) k x hx
     obtain⟨b2,o2,rfl,g2,e0,e1,e2,e3,e4⟩:=dqF (HM2.out.keep (aqC.of_below HD.out.bel)) k x hx
     have hnq:=mqq
     have HDn:=Hq (fun m=>HD.out.below (below_drewN (Below.refl wr.heap.size wr) m))
     clear hx
     go_wp2_with fail
     go_quiet (fail)
     go_wp2_with fail
     go_roundw
     case rel=>exact⟨k+1,by omega,by go_num,Hq (HDn.out _)⟩
     case measure=>simp [RowKit.intOf];omega
    go_wp2_with fail
    go_ret
    exact⟨rfl,HD.out.bel⟩
end Go.Proofs.YtdbniocnjhfhdaaGreatDoor
