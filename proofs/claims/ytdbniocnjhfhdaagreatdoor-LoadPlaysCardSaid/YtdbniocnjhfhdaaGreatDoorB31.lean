/- Part 31 of what the laws rest on: walks. Conditions: those that each theorem names. -/
import Derived.Test.YtdbniocnjhfhdaaGreatDoorB30
set_option linter.unusedSimpArgs false
set_option linter.unusedVariables false
set_option maxRecDepth 100000
set_option maxHeartbeats 4000000
namespace Go.Proofs.YtdbniocnjhfhdaaGreatDoor
open Go Go.RowKit Lib Go.Maps
theorem eqy (c:aqc) (A3:Option Addr) (k3:Nat) (w:World) (ok:Nat→Prop) (ms:List (aqr×Value×Value)) (i:Nat) (x:aqr) (h1:ms.map (·.1)=c.mths) (h2:bqm w ok 8 c.mths.length (bqs ms) (.slice A3 c.mths.length k3)) (hx:c.mths[i]?=some x):
  ∃cv tv b off,ms[i]?=some (x,cv,tv)∧A3=some ⟨b,off,none⟩∧b<w.heap.size∧ ∀j u,(x.cells cv tv)[j]?=some u→w.cell? ⟨b,off+(i*8+j),none⟩=some u:=by
 obtain⟨⟨y,cv,tv⟩,hm⟩: ∃q,ms[i]?=some q:=⟨_,List.getElem?_eq_getElem (by have:=(List.getElem?_eq_some_iff.1 hx).1;rw [←h1,List.length_map] at this;exact this)⟩
 have hy:y=x:=by
  have e:c.mths[i]?=some y:=by rw [←h1,List.getElem?_map,hm];rfl
  exact Option.some.inj (e.symm.trans hx)
 subst hy
 obtain⟨A',cap',e,_,_,_,h5⟩:=h2
 injection e with e1 _ _
 subst e1
 have hlt:=(List.getElem?_eq_some_iff.1 hx).1
 obtain⟨b,off,e,hlt2,_,hc⟩:=h5 Om
 refine⟨cv,tv,b,off,hm,e,hlt2,fun j u hu=>hc _ _ ((cqL (fun m:aqr×Value×Value=>m.1.cells m.2.1 m.2.2) 8 (fun _=>rfl) ms i _ hm j (by have:=(List.getElem?_eq_some_iff.1 hu).1;simpa [aqr.cells] using this)).trans hu)⟩
theorem nqw (c:aqc) (A:Option Addr) (cap:Nat) (ifs flds mths:Value) (ok:Nat→Prop) (i:Nat) (x:aqr) (w:World) (h:aqQ w ok c A cap ifs flds mths) (hl: ∃ms:List (aqr×Value×Value),ms.map (·.1)=c.mths∧bqm w ok 8 c.mths.length (bqs ms) mths∧ ∀m∈ms,aqO w ok m.1 m.2.1 m.2.2) (hx:c.mths[i]?=some x) (hff: ∀x∈c.mths,gqZ x) (ht: ∀k∈c.pool,k.text.size≤65536):
  Calls Tryz.prog 88 #[bqb c (.slice A c.pool.length cap) ifs flds mths, .int .i64 i] w fun e w'=>e= .returned (.int .i64 (cqC c.pool c.acc (dqn (fun x:aqr=>cqX c.pool x.name x.desc) (c.mths.take i)) x))∧Below w.heap.size w w':=by
 obtain⟨ms,hms,hl,hma⟩:=hl
 obtain⟨A3,k3,rfl,h31,h32⟩:=aqd hl
 have HL:=Hq hl
 have HMS:=Hq hms
 obtain⟨cv,tv,bf,off,hmi,rfl,hbf,hpc⟩:=eqy c A3 k3 w ok ms i x hms hl hx
 have HMA:=Hq (hma _ (List.mem_of_getElem? hmi))
 have p0:=hpc 0 _ rfl
 have p1:=hpc 1 _ rfl
 have p2:=hpc 2 _ rfl
 have p3:=hpc 3 _ rfl
 have p4:=hpc 4 _ rfl
 have p5:=hpc 5 _ rfl
 have p6:=hpc 6 _ rfl
 have p7:=hpc 7 _ rfl
 simp only [Nat.add_zero] at p0
 rw [←Nat.add_assoc] at p1 p2 p3 p4 p5 p6 p7
 have hcv: ∃Q n k,cv= .slice Q n k:=by obtain⟨Q,k,e,_⟩:=aqd HMA.out.hcode;exact⟨_,_,_,e⟩
 have htv: ∃Q n k,tv= .slice Q n k:=by obtain⟨Q,k,e,_⟩:=aqd HMA.out.htraps;exact⟨_,_,_,e⟩
 obtain⟨Qc,nc,kc,rfl⟩:=hcv
 obtain⟨Qt,nt,kt,rfl⟩:=htv
 clear hpc hma hmi
 have hil:=(List.getElem?_eq_some_iff.1 hx).1
 obtain⟨x1,x2,x3,x4,x5,x6,x7,x8,x9,x10,x11,x12⟩:=far bf w.heap.size hbf
 have HFF:=Hq hff
 have HXF:=Hq (hff x (List.mem_of_getElem? hx))
 obtain⟨E,hE⟩: ∃E,cqC c.pool c.acc (dqn (fun x:aqr=>cqX c.pool x.name x.desc) (c.mths.take i)) x=E:=⟨_,rfl⟩
 rw [hE]
 obtain⟨sn,hsn⟩: ∃s,(aqf c.pool x.name).getD ⟨#[]⟩=s:=⟨_,rfl⟩
 obtain⟨a1,ha1⟩: ∃s,(aqf c.pool x.name).isSome=s:=⟨_,rfl⟩
 obtain⟨sd,hsd⟩: ∃s,(aqf c.pool x.desc).getD ⟨#[]⟩=s:=⟨_,rfl⟩
 obtain⟨a2,ha2⟩: ∃s,(aqf c.pool x.desc).isSome=s:=⟨_,rfl⟩
 have tsz: ∀n,((aqf c.pool n).getD ⟨#[]⟩).size≤65536:=fun n=>by
  cases hq:aqf c.pool n with
  |none=>exact Nat.zero_le _
  |some s=>exact cqe hq ht
 have hz1:sn.size≤1000000:=by have:=tsz x.name;rw [hsn] at this;omega
 have hz2:sd.size≤1000000:=by have:=tsz x.desc;rw [hsd] at this;omega
 obtain⟨sb,hsb⟩: ∃v,decide ((sn.data.toList,sd.data.toList)∈dqn (fun x:aqr=>cqX c.pool x.name x.desc) (c.mths.take i))=v:=⟨_,rfl⟩
 obtain⟨g1,hg1⟩: ∃v,aq5 sn.data.toList=v:=⟨_,rfl⟩
 obtain⟨kv,hkv⟩: ∃v,aqB sd=v:=⟨_,rfl⟩
 obtain⟨ka,kr,kb⟩:=kv
 have hka:ka.size≤16:=by have:=fqV sd;rw [hkv] at this;exact this
 obtain⟨mf,hmf⟩: ∃v,cqE c.acc x.acc sn.data.toList=v:=⟨_,rfl⟩
 obtain⟨r1,hr1⟩: ∃v,(sn.toList== [60,105,110,105,116,62])=v:=⟨_,rfl⟩
 obtain⟨r2,hr2⟩: ∃v,(kr.toList== [86])=v:=⟨_,rfl⟩
 obtain⟨r3,hr3⟩: ∃v,(sn.toList== [60,99,108,105,110,105,116,62])=v:=⟨_,rfl⟩
 obtain⟨r4,hr4⟩: ∃v,(sd.toList== [40,41,86])=v:=⟨_,rfl⟩
 have HE:=Hq (show E=if(!a1|| !a2)=true then 20 else if(!g1)=true then 21 else if(!kb)=true then 22 else if mf=true then 23 else if((r1&& !r2) || (r3&& !r4))=true then 22 else if sb=true then 24 else jqa c.pool x ka.size by
  rw [←hE]
  unfold cqC hqO dqJ jqa
  rw [ha1,ha2,hsn,hsd,hg1,hkv,hmf,hsb]
  simp only
  rw [show(sn.data.toList==dqN)=r1 by rw [←hr1,ByteArray.toList_eq];rfl,show(kr.data.toList== [86])=r2 by rw [←hr2,ByteArray.toList_eq],show(sn.data.toList==bqG)=r3 by rw [←hr3,ByteArray.toList_eq];rfl,show(sd.data.toList== [40,41,86])=r4 by rw [←hr4,ByteArray.toList_eq]])
 have HSN:=Hq hsn
 have HA1:=Hq ha1
 have HSD:=Hq hsd
 have HA2:=Hq ha2
 have HSB:=Hq hsb
 have HC1:=Hq (fun W=>fq2 sn W hz1)
 rw [hg1] at HC1
 have HC2:=Hq (fun W=>eq6 sd W hz2)
 rw [hkv] at HC2
 have HC3:=Hq (fun p i f m W=>kqF (c:=c) p i f m x.acc sn W)
 rw [hmf] at HC3
 have HKA:=Hq hka
 have R1:=Hq ((R5.start h).alloc (.cells #[.int .i64 x.acc, .int .i64 x.name, .int .i64 x.desc, .bool x.has, .int .i64 x.stack, .int .i64 x.locals, .slice Qc nc kc, .slice Qt nt kt] 91))
 have F1:=Hq (aqh (w.alloc (.cells #[.int .i64 c.minor, .int .i64 c.major, .slice A c.pool.length cap, .int .i64 c.acc, .int .i64 c.this, .int .i64 c.sup,ifs,flds, .slice (some ⟨bf,off,none⟩) c.mths.length k3] 58)) [.int .i64 x.acc, .int .i64 x.name, .int .i64 x.desc, .bool x.has, .int .i64 x.stack, .int .i64 x.locals, .slice Qc nc kc, .slice Qt nt kt] 91 (w.heap.size+1) Sp)
 clear h hl hx hff ht hE tsz hsn hsd ha1 ha2 hsb hms hg1 hkv hmf hka
 rw [aqe]
 go_enter Tryz.func88,Tryz.ntmps88
 have f1:=F1.out.cell 1 rfl
 go_wp2_with (first
  | (refine wpList_load_row rfl _ _ rfl w.heap.size rfl _ _ _ _ R1.out.bx Tryz.underlying58 rfl Kq9 ?_)
  | (go_at_call 90;refine aqa ?_))
 refine aqb ?_
 refine(cqV R1.out HXF.out.1).mono ?_
 rintro e w2 ⟨rfl,hb⟩
 simp only [cqh]
 rw [HSN.out,HA1.out]
 have Rw2:=Hq (R1.out.below hb)
 have Fw2:=Hq (F1.out.below hb F1.out.lt)
 clear hb f1
 have f2:=Fw2.out.cell 2 rfl
 go_wp2_with (first
  | (refine wpList_load_row rfl _ _ rfl w.heap.size rfl _ _ _ _ Rw2.out.bx Tryz.underlying58 rfl Kq9 ?_)
  | (go_at_call 90;refine aqa ?_))
 refine aqb ?_
 refine(cqV Rw2.out HXF.out.2.1).mono ?_
 rintro e w3 ⟨rfl,hb⟩
 simp only [cqh]
 rw [HSD.out,HA2.out]
 have Rw3:=Hq (Rw2.out.below hb)
 have Fw3:=Hq (Fw2.out.below hb Fw2.out.lt)
 clear hb f2
 cases a1
 case false=>
  go_wp2_with fail
  go_ret
  exact⟨by rw [HE.out];rfl,Rw3.out.bel⟩
 cases a2
 case false=>
  go_wp2_with fail
  go_ret
  exact⟨by rw [HE.out];rfl,Rw3.out.bel⟩
 go_wp2_with (first
  | (refine wpList_load_row rfl _ _ rfl w.heap.size rfl _ _ _ _ Rw3.out.bx Tryz.underlying58 rfl Kq9 ?_)
  | (go_at_call 107;refine aqa ?_))
 refine aqb ?_
 refine(HC1.out _).mono ?_
 rintro e w4 ⟨rfl,hb⟩
 have Rw4:=Hq (Rw3.out.below hb)
 have Fw4:=Hq (Fw3.out.below hb Fw3.out.lt)
 clear hb
 cases g1
 case false=>
  go_wp2_with fail
  go_ret
  exact⟨by rw [HE.out];rfl,Rw4.out.bel⟩
 go_wp2_with (first
  | (refine wpList_load_row rfl _ _ rfl w.heap.size rfl _ _ _ _ Rw4.out.bx Tryz.underlying58 rfl Kq9 ?_)
  | (go_at_call 109;refine aqa ?_))
 refine aqb ?_
 refine(HC2.out _).mono ?_
 rintro e w5 ⟨rfl,hb⟩
 have Rw5:=Hq (Rw4.out.below hb)
 have Fw5:=Hq (Fw4.out.below hb Fw4.out.lt)
 clear hb
 cases kb
 case false=>
  go_wp2_with fail
  go_ret
  exact⟨by rw [HE.out];rfl,Rw5.out.bel⟩
 have f0:=Fw5.out.cell 0 rfl
 go_wp2_with (first
  | (refine wpList_load_row rfl _ _ rfl w.heap.size rfl _ _ _ _ Rw5.out.bx Tryz.underlying58 rfl Kq9 ?_)
  | (go_at_call 114;refine aqa ?_))
 refine aqb ?_
 refine(HC3.out _ _ _ _ _).mono ?_
 rintro e w6 ⟨rfl,hb⟩
 have Rw6:=Hq (Rw5.out.below hb)
 have Fw6:=Hq (Fw5.out.below hb Fw5.out.lt)
 clear hb f0
 cases mf
 case true=>
  go_wp2_with fail
  go_ret
  exact⟨by rw [HE.out];rfl,Rw6.out.bel⟩
 obtain⟨bad,hbad⟩: ∃u,((r1&& !r2) || (r3&& !r4))=u:=⟨_,rfl⟩
 have HBD:=Hq hbad
 rw [hbad] at HE
 clear hbad
 go_upto_region 15 with fail
 go_cut [77] (fun u wx=>u= .bool bad∧wx=w6)
 case first=>
  cases r1<;>cases r2<;>cases r3<;>cases r4
  all_goals
   go_wp2_with fail
   go_meet
   exact⟨by rw [←HBD.out];rfl,rfl⟩
 case rest=>
 obtain⟨rfl,rfl⟩:=hcut
 cases bad
 case true=>
  go_wp2_with fail
  go_ret
  exact⟨by rw [HE.out];rfl,Rw6.out.bel⟩
 replace HE:=Hq (HE.out.trans (show _=if sb=true then 24 else jqa c.pool x ka.size from rfl))
 go_wp2_with fail
 go_loopw [15] (fun j wr=> ∃m:Nat,m≤i∧j= .int .i64 m∧Hid (R5 w ok c A cap ifs flds (.slice (some ⟨bf,off,none⟩) c.mths.length k3) wr)∧Hid (Bx wr (w.heap.size+1) [.int .i64 x.acc, .int .i64 x.name, .int .i64 x.desc, .bool x.has, .int .i64 x.stack, .int .i64 x.locals, .slice Qc nc kc, .slice Qt nt kt] 91)∧Hid (∀q z,q<m→c.mths[q]?=some z→cqX c.pool z.name z.desc≠(sn.data.toList,sd.data.toList))) (fun j _=>i - (RowKit.intOf j).toNat)
 case atStart=>exact⟨0,by omega,rfl,Rw6,Fw6,Hq (fun q z h=>by omega)⟩
 case round=>
  obtain⟨m,hm,rfl,Rr,Fr,HZ⟩:=hrel
  by_cases hmi:m<i
  ·obtain⟨z,hz⟩: ∃z,c.mths[m]?=some z:=⟨_,List.getElem?_eq_getElem Om⟩
   have HZR:=Hq hz
   have HZF:=Hq (HFF.out z (List.mem_of_getElem? hz))
   have hml:m<c.mths.length:=by omega
   obtain⟨s6,hs6⟩: ∃s,(aqf c.pool z.name).getD ⟨#[]⟩=s:=⟨_,rfl⟩
   obtain⟨b6,hb6⟩: ∃s,(aqf c.pool z.name).isSome=s:=⟨_,rfl⟩
   obtain⟨s7,hs7⟩: ∃s,(aqf c.pool z.desc).getD ⟨#[]⟩=s:=⟨_,rfl⟩
   obtain⟨b7,hb7⟩: ∃s,(aqf c.pool z.desc).isSome=s:=⟨_,rfl⟩
   have HS6:=Hq hs6
   have HB6:=Hq hb6
   have HS7:=Hq hs7
   have HB7:=Hq hb7
   clear hz hs6 hb6 hs7 hb7
   have SK:=Hq (show∀W,R5 w ok c A cap ifs flds (.slice (some ⟨bf,off,none⟩) c.mths.length k3) W→(fun w'=>w'.cell? ⟨w.heap.size,0,none⟩=some (.int .i64 c.minor)∧w'.cell? ⟨w.heap.size,1,none⟩=some (.int .i64 c.major)∧w'.cell? ⟨w.heap.size,2,none⟩=some (.slice A c.pool.length cap)∧w'.cell? ⟨w.heap.size,3,none⟩=some (.int .i64 c.acc)∧w'.cell? ⟨w.heap.size,4,none⟩=some (.int .i64 c.this)∧w'.cell? ⟨w.heap.size,5,none⟩=some (.int .i64 c.sup)∧w'.cell? ⟨w.heap.size,6,none⟩=some (ifs)∧w'.cell? ⟨w.heap.size,7,none⟩=some (flds)∧w'.cell? ⟨w.heap.size,8,none⟩=some (.slice (some ⟨bf,off,none⟩) c.mths.length k3)∧w'.cell? ⟨bf,off+m*8+1,none⟩=some (.int .i64 z.name)) W from fun W hW=>by
    obtain⟨cz,tz,_,_,hmz,e,_,hq⟩:=eqy c _ k3 _ ok ms m z HMS.out (HL.out.keep (aqC.of_below hW.bel)) HZR.out
    cases e
    have q1:=hq 1 _ rfl
    have q2:=hq 2 _ rfl
    rw [←Nat.add_assoc] at q1 q2
    clear hq hmz
    obtain⟨d0,d1,d2,d3,d4,d5,d6,d7,d8⟩:=hW.bx.nine
    exact⟨d0,d1,d2,d3,d4,d5,d6,d7,d8,q1⟩)
   have RD:=Hq (Rr.out.below ((Below.refl wr.heap.size wr).drew))
   go_wp2_with fail
   go_region_held2 (fun w'=>w'.cell? ⟨w.heap.size,0,none⟩=some (.int .i64 c.minor)∧w'.cell? ⟨w.heap.size,1,none⟩=some (.int .i64 c.major)∧w'.cell? ⟨w.heap.size,2,none⟩=some (.slice A c.pool.length cap)∧w'.cell? ⟨w.heap.size,3,none⟩=some (.int .i64 c.acc)∧w'.cell? ⟨w.heap.size,4,none⟩=some (.int .i64 c.this)∧w'.cell? ⟨w.heap.size,5,none⟩=some (.int .i64 c.sup)∧w'.cell? ⟨w.heap.size,6,none⟩=some (ifs)∧w'.cell? ⟨w.heap.size,7,none⟩=some (flds)∧w'.cell? ⟨w.heap.size,8,none⟩=some (.slice (some ⟨bf,off,none⟩) c.mths.length k3)∧w'.cell? ⟨bf,off+m*8+1,none⟩=some (.int .i64 z.name)) (first|exact SK.out _ RD.out|exact SK.out _ Rw7.out) (first
    | (go_simp;go_at_call 90
       refine(cqV RD.out HZF.out.1).mono ?_
       rintro e w7 ⟨rfl,hb⟩
       simp only [cqh]
       rw [HS6.out,HB6.out]
       have Rw7:=Hq (RD.out.below hb)
       have Fw7:=Hq (((Fr.out.below ((Below.refl wr.heap.size wr).drew) Fr.out.lt)).below hb Fr.out.lt)
       clear hb))
   have SZ:=Hq (show∀W,R5 w ok c A cap ifs flds (.slice (some ⟨bf,off,none⟩) c.mths.length k3) W→(fun w'=>w'.cell? ⟨w.heap.size,0,none⟩=some (.int .i64 c.minor)∧w'.cell? ⟨w.heap.size,1,none⟩=some (.int .i64 c.major)∧w'.cell? ⟨w.heap.size,2,none⟩=some (.slice A c.pool.length cap)∧w'.cell? ⟨w.heap.size,3,none⟩=some (.int .i64 c.acc)∧w'.cell? ⟨w.heap.size,4,none⟩=some (.int .i64 c.this)∧w'.cell? ⟨w.heap.size,5,none⟩=some (.int .i64 c.sup)∧w'.cell? ⟨w.heap.size,6,none⟩=some (ifs)∧w'.cell? ⟨w.heap.size,7,none⟩=some (flds)∧w'.cell? ⟨w.heap.size,8,none⟩=some (.slice (some ⟨bf,off,none⟩) c.mths.length k3)∧w'.cell? ⟨bf,off+m*8+2,none⟩=some (.int .i64 z.desc)) W from fun W hW=>by
    obtain⟨cz,tz,_,_,hmz,e,_,hq⟩:=eqy c _ k3 _ ok ms m z HMS.out (HL.out.keep (aqC.of_below hW.bel)) HZR.out
    cases e
    have q1:=hq 1 _ rfl
    have q2:=hq 2 _ rfl
    rw [←Nat.add_assoc] at q1 q2
    clear hq hmz
    obtain⟨d0,d1,d2,d3,d4,d5,d6,d7,d8⟩:=hW.bx.nine
    exact⟨d0,d1,d2,d3,d4,d5,d6,d7,d8,q2⟩)
   have RD:=Hq (Rw7.out.below ((Below.refl w7.heap.size w7).drew))
   go_wp2_with fail
   go_region_held2 (fun w'=>w'.cell? ⟨w.heap.size,0,none⟩=some (.int .i64 c.minor)∧w'.cell? ⟨w.heap.size,1,none⟩=some (.int .i64 c.major)∧w'.cell? ⟨w.heap.size,2,none⟩=some (.slice A c.pool.length cap)∧w'.cell? ⟨w.heap.size,3,none⟩=some (.int .i64 c.acc)∧w'.cell? ⟨w.heap.size,4,none⟩=some (.int .i64 c.this)∧w'.cell? ⟨w.heap.size,5,none⟩=some (.int .i64 c.sup)∧w'.cell? ⟨w.heap.size,6,none⟩=some (ifs)∧w'.cell? ⟨w.heap.size,7,none⟩=some (flds)∧w'.cell? ⟨w.heap.size,8,none⟩=some (.slice (some ⟨bf,off,none⟩) c.mths.length k3)∧w'.cell? ⟨bf,off+m*8+2,none⟩=some (.int .i64 z.desc)) (first|exact SZ.out _ RD.out|exact SZ.out _ Rw8.out) (first
    | (go_simp;go_at_call 90
       refine(cqV RD.out HZF.out.2.1).mono ?_
       rintro e w8 ⟨rfl,hb⟩
       simp only [cqh]
       rw [HS7.out,HB7.out]
       have Rw8:=Hq (RD.out.below hb)
       have Fw8:=Hq (((Fw7.out.below ((Below.refl w7.heap.size w7).drew) Fw7.out.lt)).below hb Fw7.out.lt)
       clear hb))
   have hne: ∀(_: ¬(s6=sn∧s7=sd)), ∀q z,q<m+1→c.mths[q]?=some z→cqX c.pool z.name z.desc≠(sn.data.toList,sd.data.toList):=fun hn q z' h1 h2=>by
    rcases Nat.lt_or_ge q m with h3|h3
    ·exact HZ.out q z' h3 h2
    obtain rfl:q=m:=by omega
    rw [HZR.out] at h2
    cases h2
    unfold cqX
    rw [HS6.out,HS7.out]
    intro h4
    injection h4 with h5 h6
    exact hn ⟨bqJ h5,bqJ h6⟩
   by_cases he1:s6=sn
   case neg=>
    have hq1:(s6.toList==sn.toList)=false:=beq_eq_false_iff_ne.2 fun h=>he1 (bqJ (by rw [←ByteArray.toList_eq, ←ByteArray.toList_eq];exact h))
    have HZ2:=Hq (hne fun h=>he1 h.1)
    clear he1 hne
    go_wp2_with fail
    go_roundw
    case rel=>exact⟨m+1,by omega,by go_num,Rw8,Fw8,HZ2⟩
    case measure=>simp [RowKit.intOf];omega
   have hq1:(s6.toList==sn.toList)=true:=by rw [he1];exact beq_self_eq_true _
   by_cases he2:s7=sd
   case neg=>
    have hq2:(s7.toList==sd.toList)=false:=beq_eq_false_iff_ne.2 fun h=>he2 (bqJ (by rw [←ByteArray.toList_eq, ←ByteArray.toList_eq];exact h))
    have HZ2:=Hq (hne fun h=>he2 h.2)
    clear he1 he2 hne
    go_wp2_with fail
    go_roundw
    case rel=>exact⟨m+1,by omega,by go_num,Rw8,Fw8,HZ2⟩
    case measure=>simp [RowKit.intOf];omega
   have hq2:(s7.toList==sd.toList)=true:=by rw [he2];exact beq_self_eq_true _
   have HM:=Hq (show sb=true by rw [←HSB.out,decide_eq_true_eq];exact eqP.2 ⟨m,z,hmi,HZR.out,by show cqX _ _ _=_;unfold cqX;rw [HS6.out,HS7.out,he1,he2]⟩)
   clear he1 he2 hne
   go_wp2_with fail
   go_ret
   exact⟨by rw [HE.out,if_pos HM.out];rfl,Rw8.out.bel⟩
  obtain rfl:m=i:=by omega
  have HM:=Hq (show sb=false by
   rw [←HSB.out,decide_eq_false_iff_not]
   intro hm
   obtain⟨q,z,h1,h2,h3⟩:=eqP.1 hm
   exact HZ.out q z h1 h2 h3)
  replace HE:=Hq (HE.out.trans (show _=jqa c.pool x ka.size by rw [HM.out];rfl))
  have hsx:((ka.toList.length:Nat):Int)=(ka.size:Int):=by rw [ByteArray.toList_eq];simp
  have hka16:=HKA.out
  go_wp2_with (first
   | (refine wpList_load_row rfl _ _ rfl w.heap.size rfl _ _ _ _ Rr.out.bx Tryz.underlying58 rfl Kq9 ?_)
   | (refine wpList_load_row rfl _ _ rfl (w.heap.size+1) rfl _ _ _ _ Fr.out Tryz.underlying91 rfl Kq9 ?_)
   | (go_at_call 115;refine aqa ?_))
  refine aqb ?_
  refine(lq7 c A cap ifs flds (.slice (some ⟨bf,off,none⟩) c.mths.length k3) ok ok x _ _ ka.size _ Rr.out.bk ⟨HMA.out.hcode.keep (aqC.of_below Rr.out.bel),HMA.out.htraps.keep (aqC.of_below Rr.out.bel)⟩ (fun t ht=> (HXF.out.2.2.2.2 t ht).2.2.2) Om).mono ?_
  rintro e w9 ⟨rfl,hb⟩
  have R9:=Hq (Rr.out.below hb)
  clear hb
  go_wp2_with fail
  go_ret
  exact⟨by rw [HE.out];rfl,R9.out.bel⟩
theorem kqH {pool:List Ko} {acc:Int} {seen:List NmD} {x:aqq} (h:dqk pool acc seen x=0):fqe pool acc x=false:=by
 unfold dqk hqN at h
 unfold fqe
 generalize (!(aqf pool x.name).isSome|| !(aqf pool x.desc).isSome)=b1 at*
 generalize (!bqh (cqX pool x.name x.desc).1)=b2 at*
 generalize (!aqD (cqX pool x.name x.desc).2)=b3 at*
 generalize bq3 acc x.acc=b4 at*
 cases b1<;>cases b2<;>cases b3<;>cases b4<;>first|rfl|simp at h
theorem kqI {pool:List Ko} {acc:Int} {seen:List NmD} {x:aqr} (h:cqC pool acc seen x=0):fqf pool acc x=false:=by
 unfold cqC hqO at h
 unfold fqf
 generalize (!(aqf pool x.name).isSome|| !(aqf pool x.desc).isSome)=b1 at*
 generalize (!aq5 ((aqf pool x.name).getD ⟨#[]⟩).data.toList)=b2 at*
 generalize (!(aqB ((aqf pool x.desc).getD ⟨#[]⟩)).2.2)=b3 at*
 generalize cqE acc x.acc ((aqf pool x.name).getD ⟨#[]⟩).data.toList=b4 at*
 generalize dqJ ((aqf pool x.name).getD ⟨#[]⟩).data.toList (aqB ((aqf pool x.desc).getD ⟨#[]⟩)).2.1.data.toList ((aqf pool x.desc).getD ⟨#[]⟩).data.toList=b5 at*
 cases b1<;>cases b2<;>cases b3<;>cases b4<;>cases b5<;>first|rfl|simp at h
theorem jqb {pool:List Ko} {acc:Int} {l:List aqq} {k:Nat} {x:aqq} (hx:l[k]?=some x) (hs:bqI pool acc (l.take k)=dqn (fun x:aqq=>cqX pool x.name x.desc) (l.take k)) (hb:fqe pool acc x=false):
  bqI pool acc (l.take (k+1))=dqn (fun x:aqq=>cqX pool x.name x.desc) (l.take (k+1)):=by
 rw [List.take_add_one,hx]
 unfold bqI dqn at*
 rw [Option.toList_some,List.foldl_append,hs,List.foldl_cons,List.foldl_nil,hb]
 simp
theorem jqc {pool:List Ko} {acc:Int} {l:List aqr} {k:Nat} {x:aqr} (hx:l[k]?=some x) (hs:bqr pool acc (l.take k)=dqn (fun x:aqr=>cqX pool x.name x.desc) (l.take k)) (hb:fqf pool acc x=false):
  bqr pool acc (l.take (k+1))=dqn (fun x:aqr=>cqX pool x.name x.desc) (l.take (k+1)):=by
 rw [List.take_add_one,hx]
 unfold bqr dqn at*
 rw [Option.toList_some,List.foldl_append,hs,List.foldl_cons,List.foldl_nil,hb]
 simp
theorem lq8 {pool:List Ko} (h: ∀k∈pool,gqz pool k=0) (n:Int):(aqt pool n 7).isSome=(aqE pool n).isSome:=by
 unfold aqE
 rcases hk:aqt pool n 7 with _|k
 ·rfl
 have h1:=cqm hk
 have h2:=h k h1.1
 unfold gqz at h2
 rw [if_pos h1.2] at h2
 unfold eqM at h2
 show true=(aqf pool k.a).isSome
 cases ht:aqf pool k.a with
 |none=>rw [ht] at h2;cases h2
 |some s=>rfl
theorem gqI (c:aqc) (p i f m:Value) (ok:Nat→Prop) (w:World) (h:aqy w ok c p i f m) (hF:dql c):
  Calls Tryz.prog 59 #[bqb c p i f m] w fun e w'=>e= .returned (.int .i64 (aqK c))∧Below w.heap.size w w':=by
 obtain⟨A1,k1,rfl,q1,z1⟩:=aqd h.hpool
 obtain⟨A2,k2,rfl,q2,z2⟩:=aqd h.hifs
 obtain⟨A3,k3,rfl,q3,z3⟩:=aqd h.hflds
 obtain⟨ms,m1,m2,m3⟩:=h.hmths
 obtain⟨A4,k4,rfl,q4,z4⟩:=aqd m2
 obtain⟨E,hE⟩: ∃E,aqK c=E:=⟨_,rfl⟩
 obtain⟨lg,hlg⟩: ∃b,eqE c=b:=⟨_,rfl⟩
 obtain⟨b1,hb1⟩: ∃v,decide (c.major<45)=v:=⟨_,rfl⟩
 obtain⟨b2,hb2⟩: ∃v,decide (52<c.major)=v:=⟨_,rfl⟩
 obtain⟨T,hT⟩: ∃T:Int,(if cqF c≠0 then cqF c else if aqZ (fun l x=>dqk c.pool c.acc (bqI c.pool c.acc l) x) [] c.flds≠0 then aqZ (fun l x=>dqk c.pool c.acc (bqI c.pool c.acc l) x) [] c.flds else aqZ (fun l x=>cqC c.pool c.acc (bqr c.pool c.acc l) x) [] c.mths)=T:=⟨_,rfl⟩
 have HE:=Hq (show E=if lg=true then 2 else if(b1||b2)=true then 12 else if cqu (gqz c.pool) c.pool≠0 then cqu (gqz c.pool) c.pool else T by
  rw [←hE]
  unfold aqK gqn
  rw [hT,hlg, ←hb1, ←hb2]
  simp only [Bool.or_eq_true,decide_eq_true_eq])
 rw [hE]
 have HT:=Hq hT
 have HC:=Hq h
 have HLG:=Hq hlg
 have HFF:=Hq hF
 have BK:=Hq (show aqQ w ok c A1 k1 (.slice A2 c.ifs.length k2) (.slice A3 c.flds.length k3) (.slice A4 c.mths.length k4) from⟨h.hpool,rfl,rfl,rfl⟩)
 have R0:=Hq (R5.start BK.out)
 have HTX:=Hq (show∀k∈c.pool,k.text.size≤65536 from fun k hk=> (hF.pool k hk).2.2.1)
 clear h hF hE hlg hT m1 m2 m3
 rw [aqe]
 go_enter Tryz.func59,Tryz.ntmps59
 go_wp2_with (first
  | (refine wpList_load_row rfl _ _ rfl w.heap.size rfl _ _ _ _ R0.out.bx Tryz.underlying58 rfl Kq9 ?_)
  | (go_at_call 84;refine aqa ?_))
 refine aqb ?_
 refine(lq4 c _ _ _ _ ok _ (HC.out.keep (aqC.of_below R0.out.bel))).mono ?_
 rw [HLG.out]
 rintro e w1 ⟨rfl,hb⟩
 have R1:=Hq (R0.out.below hb)
 have c1:=R1.out.bx.cell 1 rfl
 clear hb
 cases lg
 case true=>
  go_wp2_with fail
  go_ret
  exact⟨by rw [HE.out];rfl,R1.out.bel⟩
 cases b1
 case true=>
  go_wp2_with fail
  go_ret
  exact⟨by rw [HE.out];rfl,R1.out.bel⟩
 cases b2
 case true=>
  go_wp2_with fail
  go_ret
  exact⟨by rw [HE.out];rfl,R1.out.bel⟩
 replace HE:=Hq (HE.out.trans (show _=if cqu (gqz c.pool) (c.pool.drop 0)≠0 then cqu (gqz c.pool) (c.pool.drop 0) else T from rfl))
 go_wp2_with fail
 clear c1
 go_loopw [4] (fun i wr=> ∃k:Nat,k≤c.pool.length∧i= .int .i64 k∧Hid (R5 w ok c A1 k1 (.slice A2 c.ifs.length k2) (.slice A3 c.flds.length k3) (.slice A4 c.mths.length k4) wr)∧Hid (E=if cqu (gqz c.pool) (c.pool.drop k)≠0 then cqu (gqz c.pool) (c.pool.drop k) else T)∧Hid (∀q x,q<k→c.pool[q]?=some x→gqz c.pool x=0)) (fun i _=>c.pool.length - (RowKit.intOf i).toNat)
 case atStart=>exact⟨0,by omega,rfl,R1,HE,Hq (fun q x h=>by omega)⟩
 case round=>
  obtain⟨k,hk,rfl,Rr,HEr,HZ⟩:=hrel
  have c2:=Rr.out.bx.cell 2 rfl
  by_cases hlt:k<c.pool.length
  ·obtain⟨x,hx⟩: ∃x,c.pool[k]?=some x:=⟨_,List.getElem?_eq_getElem hlt⟩
   obtain⟨bp,op,rfl,hbp,_,_,_,_,_⟩:=cql BK.out.hp k x hx
   have HX:=Hq hx
   have hxm:=List.mem_of_getElem? hx
   obtain⟨v,hv⟩: ∃v,gqz c.pool x=v:=⟨_,rfl⟩
   have HV:=Hq hv
   have HM:=Hq (HEr.out.trans (show _=if v≠0 then v else if cqu (gqz c.pool) (c.pool.drop (k+1))≠0 then cqu (gqz c.pool) (c.pool.drop (k+1)) else T by
    rw [fqG hx,hv]
    by_cases h0:v=0
    ·simp [h0]
    simp [h0]))
   have SK:=Hq (show∀W,R5 w ok c (some ⟨bp,op,none⟩) k1 (.slice A2 c.ifs.length k2) (.slice A3 c.flds.length k3) (.slice A4 c.mths.length k4) W→(fun w'=>w'.cell? ⟨w.heap.size,0,none⟩=some (.int .i64 c.minor)∧w'.cell? ⟨w.heap.size,1,none⟩=some (.int .i64 c.major)∧w'.cell? ⟨w.heap.size,2,none⟩=some (.slice (some ⟨bp,op,none⟩) c.pool.length k1)∧w'.cell? ⟨w.heap.size,3,none⟩=some (.int .i64 c.acc)∧w'.cell? ⟨w.heap.size,4,none⟩=some (.int .i64 c.this)∧w'.cell? ⟨w.heap.size,5,none⟩=some (.int .i64 c.sup)∧w'.cell? ⟨w.heap.size,6,none⟩=some (.slice A2 c.ifs.length k2)∧w'.cell? ⟨w.heap.size,7,none⟩=some (.slice A3 c.flds.length k3)∧w'.cell? ⟨w.heap.size,8,none⟩=some (.slice A4 c.mths.length k4)∧w'.cell? ⟨bp,op+k*5,none⟩=some (.int .i64 x.tag)∧w'.cell? ⟨bp,op+k*5+1,none⟩=some (.string x.text)∧w'.cell? ⟨bp,op+k*5+2,none⟩=some (.int .i64 x.num)∧w'.cell? ⟨bp,op+k*5+3,none⟩=some (.int .i64 x.a)∧w'.cell? ⟨bp,op+k*5+4,none⟩=some (.int .i64 x.b)) W from fun W hW=>by
    obtain⟨_,_,e,_,p0,p1,p2,p3,p4⟩:=cql hW.bk.hp k x hx
    cases e
    obtain⟨d0,d1,d2,d3,d4,d5,d6,d7,d8⟩:=hW.bx.nine
    exact⟨d0,d1,d2,d3,d4,d5,d6,d7,d8,p0,p1,p2,p3,p4⟩)
   clear hx hv
   have RD:=Hq (Rr.out.below ((Below.refl wr.heap.size wr).drew))
   go_wp2_with fail
   clear c2
   go_region_held2 (fun w'=>w'.cell? ⟨w.heap.size,0,none⟩=some (.int .i64 c.minor)∧w'.cell? ⟨w.heap.size,1,none⟩=some (.int .i64 c.major)∧w'.cell? ⟨w.heap.size,2,none⟩=some (.slice (some ⟨bp,op,none⟩) c.pool.length k1)∧w'.cell? ⟨w.heap.size,3,none⟩=some (.int .i64 c.acc)∧w'.cell? ⟨w.heap.size,4,none⟩=some (.int .i64 c.this)∧w'.cell? ⟨w.heap.size,5,none⟩=some (.int .i64 c.sup)∧w'.cell? ⟨w.heap.size,6,none⟩=some (.slice A2 c.ifs.length k2)∧w'.cell? ⟨w.heap.size,7,none⟩=some (.slice A3 c.flds.length k3)∧w'.cell? ⟨w.heap.size,8,none⟩=some (.slice A4 c.mths.length k4)∧w'.cell? ⟨bp,op+k*5,none⟩=some (.int .i64 x.tag)∧w'.cell? ⟨bp,op+k*5+1,none⟩=some (.string x.text)∧w'.cell? ⟨bp,op+k*5+2,none⟩=some (.int .i64 x.num)∧w'.cell? ⟨bp,op+k*5+3,none⟩=some (.int .i64 x.a)∧w'.cell? ⟨bp,op+k*5+4,none⟩=some (.int .i64 x.b)) (first|exact SK.out _ RD.out|exact SK.out _ R4.out) (first
    | (go_simp;go_at_call 85
       refine(nqt c _ k1 _ _ _ ok _ RD.out.bk HFF.out.pool x hxm).mono ?_
       rw [HV.out]
       rintro e w4 ⟨rfl,hb⟩
       have R4:=Hq (RD.out.below hb)
       clear hb))
   by_cases h0:v=0
   ·subst h0
    have HM2:=Hq (HM.out.trans (if_neg Sp))
    have HZ2:=Hq (show∀q x,q<k+1→c.pool[q]?=some x→gqz c.pool x=0 from fun q y h1 h2=>by
     rcases Nat.lt_or_ge q k with h3|h3
     ·exact HZ.out q y h3 h2
     obtain rfl:q=k:=by omega
     rw [HX.out] at h2
     cases h2
     exact HV.out)
    go_wp2_with fail
    go_roundw
    case rel=>exact⟨k+1,by omega,by go_num,R4,HM2,HZ2⟩
    case measure=>simp [RowKit.intOf];omega
   have hq:(v !=0)=true:=by simpa using h0
   have HM2:=Hq (HM.out.trans (if_pos h0))
   clear h0
   go_wp2_with fail
   go_ret
   exact⟨by rw [HM2.out];rfl,R4.out.bel⟩
  have HNM:=Hq (lq8 (pool:=c.pool) fun y hy=>by
   obtain⟨q,hq⟩:=List.mem_iff_getElem?.1 hy
   exact HZ.out q y (by have:=(List.getElem?_eq_some_iff.1 hq).1;omega) hq)
  replace HEr:=Hq (show E=T by rw [HEr.out,List.drop_of_length_le Om];rfl)
  clear HE
  go_wp2_with (first
   | (refine wpList_load_row rfl _ _ rfl w.heap.size rfl _ _ _ _ Rr.out.bx Tryz.underlying58 rfl Kq9 ?_)
   | (go_at_call 86;refine aqa ?_))
  refine aqb ?_
  refine(lq6 c _ _ _ _ _ ok _ Rr.out.bk (HC.out.hifs.keep (aqC.of_below Rr.out.bel)) HFF.out.this HFF.out.sup (fun k hk=> (HFF.out.pool k hk).1) HFF.out.ifs HNM.out).mono ?_
  rintro e w5 ⟨rfl,hb⟩
  obtain⟨H,hH⟩: ∃H,cqF c=H:=⟨_,rfl⟩
  rw [hH]
  have HE:=Hq (show E=if H≠0 then H else if aqZ (fun l x=>dqk c.pool c.acc (bqI c.pool c.acc l) x) (c.flds.take 0) (c.flds.drop 0)≠0 then aqZ (fun l x=>dqk c.pool c.acc (bqI c.pool c.acc l) x) (c.flds.take 0) (c.flds.drop 0) else aqZ (fun l x=>cqC c.pool c.acc (bqr c.pool c.acc l) x) [] c.mths by rw [HEr.out, ←HT.out,hH];rfl)
  have Rw5:=Hq (Rr.out.below hb)
  clear hb hH HEr c2
  go_wp2_with fail
  go_loopw [6,7] (fun ev i wr=> ∃(k:Nat) (v:Int),k≤c.flds.length∧i= .int .i64 k∧ev= .int .i64 v∧Hid (R5 w ok c A1 k1 (.slice A2 c.ifs.length k2) (.slice A3 c.flds.length k3) (.slice A4 c.mths.length k4) wr)∧Hid (E=if v≠0 then v else if aqZ (fun l x=>dqk c.pool c.acc (bqI c.pool c.acc l) x) (c.flds.take k) (c.flds.drop k)≠0 then aqZ (fun l x=>dqk c.pool c.acc (bqI c.pool c.acc l) x) (c.flds.take k) (c.flds.drop k) else aqZ (fun l x=>cqC c.pool c.acc (bqr c.pool c.acc l) x) [] c.mths)∧Hid (v=0→bqI c.pool c.acc (c.flds.take k)=dqn (fun x:aqq=>cqX c.pool x.name x.desc) (c.flds.take k))) (fun _ i _=>c.flds.length - (RowKit.intOf i).toNat)
  case atStart=>exact⟨0,H,by omega,rfl,rfl,Rw5,HE,Hq (fun _=>rfl)⟩
  case round=>
   obtain⟨k,v,hk,rfl,rfl,Rr,HEr,HS⟩:=hrel
   have c7:=Rr.out.bx.cell 7 rfl
   by_cases hlt:k<c.flds.length∧v=0
   ·obtain⟨hlt,rfl⟩:=hlt
    obtain⟨x,hx⟩: ∃x,c.flds[k]?=some x:=⟨_,List.getElem?_eq_getElem hlt⟩
    have HX:=Hq hx
    obtain⟨u,hu⟩: ∃u,dqk c.pool c.acc (bqI c.pool c.acc (c.flds.take k)) x=u:=⟨_,rfl⟩
    have HU:=Hq (show dqk c.pool c.acc (dqn (fun x:aqq=>cqX c.pool x.name x.desc) (c.flds.take k)) x=u by rw [←HS.out rfl];exact hu)
    have HE2:=Hq (HEr.out.trans (show _=if u≠0 then u else if aqZ (fun l x=>dqk c.pool c.acc (bqI c.pool c.acc l) x) (c.flds.take (k+1)) (c.flds.drop (k+1))≠0 then aqZ (fun l x=>dqk c.pool c.acc (bqI c.pool c.acc l) x) (c.flds.take (k+1)) (c.flds.drop (k+1)) else aqZ (fun l x=>cqC c.pool c.acc (bqr c.pool c.acc l) x) [] c.mths by
     rw [if_neg Sp,dqs hx,hu]
     by_cases h0:u=0
     ·simp [h0]
     simp [h0]))
    have HS2:=Hq (show u=0→bqI c.pool c.acc (c.flds.take (k+1))=dqn (fun x:aqq=>cqX c.pool x.name x.desc) (c.flds.take (k+1)) from fun h0=>jqb hx (HS.out rfl) (kqH (hu.trans h0)))
    clear hx hu
    go_wp2_with (first
     | (refine wpList_load_row rfl _ _ rfl w.heap.size rfl _ _ _ _ Rr.out.bx Tryz.underlying58 rfl Kq9 ?_)
     | (go_at_call 87;refine aqa ?_))
    refine aqb ?_
    refine(nqv c _ _ _ _ _ ok k x _ Rr.out.bk (HC.out.hflds.keep (aqC.of_below Rr.out.bel)) HX.out HFF.out.flds HTX.out).mono ?_
    rw [HU.out]
    rintro e w6 ⟨rfl,hb⟩
    have R6:=Hq (Rr.out.below hb)
    clear hb
    go_wp2_with fail
    go_roundw
    case rel=>exact⟨k+1,u,by omega,by go_num,rfl,R6,HE2,HS2⟩
    case measure=>simp [RowKit.intOf];omega
   have HEm:=Hq (show E=if v≠0 then v else aqZ (fun l x=>cqC c.pool c.acc (bqr c.pool c.acc l) x) (c.mths.take 0) (c.mths.drop 0) by
    rw [HEr.out]
    by_cases h0:v=0
    ·have e0:aqZ (fun l x=>dqk c.pool c.acc (bqI c.pool c.acc l) x) (c.flds.take k) (c.flds.drop k)=0:=by rw [List.drop_of_length_le (Nat.le_of_not_lt fun h=>hlt ⟨h,h0⟩)];rfl
     rw [e0,if_neg (by simp [h0]),if_neg Sp,if_neg (by simp [h0])]
     rfl
    rw [if_pos h0,if_pos h0])
   have hcb:(¬k<c.flds.length)∨(k<c.flds.length∧(v==0)=false):=by
    by_cases h1:k<c.flds.length
    ·exact .inr ⟨h1,by rw [beq_eq_false_iff_ne];intro h0;exact hlt ⟨h1,h0⟩⟩
    exact .inl h1
   replace HEm:=Hq (show E=if v≠0 then v else if aqZ (fun l x=>cqC c.pool c.acc (bqr c.pool c.acc l) x) (c.mths.take 0) (c.mths.drop 0)≠0 then aqZ (fun l x=>cqC c.pool c.acc (bqr c.pool c.acc l) x) (c.mths.take 0) (c.mths.drop 0) else(0:Int) by
    rw [HEm.out]
    by_cases h1:aqZ (fun l x=>cqC c.pool c.acc (bqr c.pool c.acc l) x) (c.mths.take 0) (c.mths.drop 0)=0
    ·rw [h1];rfl
    rw [if_pos (c:=aqZ (fun l x=>cqC c.pool c.acc (bqr c.pool c.acc l) x) (c.mths.take 0) (c.mths.drop 0)≠0) h1])
   clear HEr hlt HE
   rcases hcb with hcl| ⟨hcl,hcv⟩
   all_goals
    go_wp2_with fail
    go_loopw [6,8] (fun ev i wr=> ∃(k:Nat) (v:Int),k≤c.mths.length∧i= .int .i64 k∧ev= .int .i64 v∧Hid (R5 w ok c A1 k1 (.slice A2 c.ifs.length k2) (.slice A3 c.flds.length k3) (.slice A4 c.mths.length k4) wr)∧Hid (E=if v≠0 then v else if aqZ (fun l x=>cqC c.pool c.acc (bqr c.pool c.acc l) x) (c.mths.take k) (c.mths.drop k)≠0 then aqZ (fun l x=>cqC c.pool c.acc (bqr c.pool c.acc l) x) (c.mths.take k) (c.mths.drop k) else(0:Int))∧Hid (v=0→bqr c.pool c.acc (c.mths.take k)=dqn (fun x:aqr=>cqX c.pool x.name x.desc) (c.mths.take k))) (fun _ i _=>c.mths.length - (RowKit.intOf i).toNat)
    case atStart=>exact⟨0,v,by omega,rfl,rfl,Rr,HEm,Hq (fun _=>rfl)⟩
    case round=>
     obtain⟨k,v,hk,rfl,rfl,Rq,HEr,HS⟩:=hrel
     have c8:=Rq.out.bx.cell 8 rfl
     by_cases hlt:k<c.mths.length∧v=0
     ·obtain⟨hlt,rfl⟩:=hlt
      obtain⟨x,hx⟩: ∃x,c.mths[k]?=some x:=⟨_,List.getElem?_eq_getElem hlt⟩
      have HX:=Hq hx
      obtain⟨u,hu⟩: ∃u,cqC c.pool c.acc (bqr c.pool c.acc (c.mths.take k)) x=u:=⟨_,rfl⟩
      have HU:=Hq (show cqC c.pool c.acc (dqn (fun x:aqr=>cqX c.pool x.name x.desc) (c.mths.take k)) x=u by rw [←HS.out rfl];exact hu)
      have HE2:=Hq (HEr.out.trans (show _=if u≠0 then u else if aqZ (fun l x=>cqC c.pool c.acc (bqr c.pool c.acc l) x) (c.mths.take (k+1)) (c.mths.drop (k+1))≠0 then aqZ (fun l x=>cqC c.pool c.acc (bqr c.pool c.acc l) x) (c.mths.take (k+1)) (c.mths.drop (k+1)) else(0:Int) by
       rw [if_neg Sp,dqs hx,hu]
       by_cases h0:u=0
       ·simp [h0]
       simp [h0]))
      have HS2:=Hq (show u=0→bqr c.pool c.acc (c.mths.take (k+1))=dqn (fun x:aqr=>cqX c.pool x.name x.desc) (c.mths.take (k+1)) from fun h0=>jqc hx (HS.out rfl) (kqI (hu.trans h0)))
      clear hx hu
      go_wp2_with (first
       | (refine wpList_load_row rfl _ _ rfl w.heap.size rfl _ _ _ _ Rq.out.bx Tryz.underlying58 rfl Kq9 ?_)
       | (go_at_call 88;refine aqa ?_))
      refine aqb ?_
      refine(nqw c _ _ _ _ _ ok k x _ Rq.out.bk (HC.out.keep (aqC.of_below Rq.out.bel)).hmths HX.out HFF.out.mths HTX.out).mono ?_
      rw [HU.out]
      rintro e w6 ⟨rfl,hb⟩
      have R6:=Hq (Rq.out.below hb)
      clear hb
      go_wp2_with fail
      go_roundw
      case rel=>exact⟨k+1,u,by omega,by go_num,rfl,R6,HE2,HS2⟩
      case measure=>simp [RowKit.intOf];omega
     have HEz:=Hq (show E=if v≠0 then v else 0 by
      rw [HEr.out]
      by_cases h0:v=0
      ·have e0:aqZ (fun l x=>cqC c.pool c.acc (bqr c.pool c.acc l) x) (c.mths.take k) (c.mths.drop k)=0:=by rw [List.drop_of_length_le (Nat.le_of_not_lt fun h=>hlt ⟨h,h0⟩)];rfl
       rw [e0,if_neg (by simp [h0]),if_neg Sp,if_neg (by simp [h0])]
      rw [if_pos h0,if_pos h0])
     have hcb:(¬k<c.mths.length)∨(k<c.mths.length∧(v==0)=false):=by
      by_cases h1:k<c.mths.length
      ·exact .inr ⟨h1,by rw [beq_eq_false_iff_ne];intro h0;exact hlt ⟨h1,h0⟩⟩
      exact .inl h1
     replace HEz:=Hq (show E=v by
      rw [HEz.out]
      by_cases h0:v=0
      ·rw [h0];rfl
      rw [if_pos h0])
     rcases hcb with hcl| ⟨hcl,hcv⟩
     all_goals
      go_wp2_with fail
      go_ret
      exact⟨by rw [HEz.out];rfl,Rq.out.bel⟩
end Go.Proofs.YtdbniocnjhfhdaaGreatDoor
