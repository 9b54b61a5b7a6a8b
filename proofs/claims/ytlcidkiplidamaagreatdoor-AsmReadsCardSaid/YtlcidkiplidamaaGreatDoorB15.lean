/-
  What the laws rest on, part 15: walks of the program's functions and plain laws. Conditions: none but those that each theorem names.
-/
import Derived.Test.YtlcidkiplidamaaGreatDoorB14
import Derived.Deep.Cut
import Derived.Deep.CutRange
import Derived.Deep.DeepCutAuto
import Derived.Test.YtlcidkiplidamaaGreatDoorB00
import Derived.OrdersHeld
import Derived.Deep.RegionHeld2
set_option linter.unusedSimpArgs false
set_option linter.unusedVariables false
set_option maxRecDepth 100000
set_option maxHeartbeats 4000000
namespace Go.Proofs.YtlcidkiplidamaaGreatDoor
open Go Go.RowKit Lib Go.Maps
theorem eqm (c:aqj) (A3:Option Addr) (k3:Nat) (w:World) (ok:Nat→Prop) (ms:List (aqA×Value×Value)) (i:Nat) (x:aqA) (h1:ms.map (·.1)=c.mths) (h2:cqX w ok 8 c.mths.length (aq8 ms) (.slice A3 c.mths.length k3)) (hx:c.mths[i]?=some x):
  ∃cv tv b off,ms[i]?=some (x,cv,tv)∧A3=some ⟨b,off,none⟩∧b<w.heap.size∧ ∀j u,(x.cells cv tv)[j]?=some u→w.cell? ⟨b,off+(i*8+j),none⟩=some u:=by
 obtain⟨⟨y,cv,tv⟩,hm⟩: ∃q,ms[i]?=some q:=⟨_,List.getElem?_eq_getElem (by have:=(List.getElem?_eq_some_iff.1 hx).1;rw [←h1,List.length_map] at this;exact this)⟩
 have hy:y=x:=by
  have e:c.mths[i]?=some y:=by rw [←h1,List.getElem?_map,hm];rfl
  exact Option.some.inj (e.symm.trans hx)
 subst hy
 obtain⟨A',cap',e,_,_,_,h5⟩:=h2
 injection e with e1 _ _
 subst e1
 have hlt:=(List.getElem?_eq_some_iff.1 hx).1
 obtain⟨b,off,e,hlt2,_,hc⟩:=h5 (by omega)
 refine⟨cv,tv,b,off,hm,e,hlt2,fun j u hu=>hc _ _ ((dqa (fun m:aqA×Value×Value=>m.1.cells m.2.1 m.2.2) 8 (fun _=>rfl) ms i _ hm j (by have:=(List.getElem?_eq_some_iff.1 hu).1;simpa [aqA.cells] using this)).trans hu)⟩
theorem mqT (c:aqj) (A:Option Addr) (cap:Nat) (ifs flds mths:Value) (ok:Nat→Prop) (i:Nat) (x:aqA) (w:World) (h:aqQ w ok c A cap ifs flds mths) (hl: ∃ms:List (aqA×Value×Value),ms.map (·.1)=c.mths∧cqX w ok 8 c.mths.length (aq8 ms) mths∧ ∀m∈ms,cqC w ok m.1 m.2.1 m.2.2) (hx:c.mths[i]?=some x) (hff: ∀x∈c.mths,fqi x) (ht: ∀k∈c.pool,k.text.size≤65536):
  Calls Tryz.prog 73 #[bqp c (.slice A c.pool.length cap) ifs flds mths, .int .i64 i] w fun e w'=>e= .returned (.int .i64 (cqA c.pool c.acc (dql (fun x:aqA=>cqY c.pool x.name x.desc) (c.mths.take i)) x))∧Below w.heap.size w w':=by
 obtain⟨ms,hms,hl,hma⟩:=hl
 obtain⟨A3,k3,rfl,h31,h32⟩:=aqm hl
 have HL:=Hq hl
 have HMS:=Hq hms
 obtain⟨cv,tv,bf,off,hmi,rfl,hbf,hpc⟩:=eqm c A3 k3 w ok ms i x hms hl hx
 have HMA:=Hq (hma _ (List.mem_of_getElem? hmi))
 have p0:=hpc 0 _ rfl
 have p1:=hpc 1 _ rfl
 have p2:=hpc 2 _ rfl
 have p3:=hpc 3 _ rfl
 have p4:=hpc 4 _ rfl
 have p5:=hpc 5 _ rfl
 have p6:=hpc 6 _ rfl
 have p7:=hpc 7 _ rfl
 simp only [Nat.add_zero] at p0
 rw [←Nat.add_assoc] at p1 p2 p3 p4 p5 p6 p7
 have hcv: ∃Q n k,cv= .slice Q n k:=by obtain⟨Q,k,e,_⟩:=aqm HMA.out.hcode;exact⟨_,_,_,e⟩
 have htv: ∃Q n k,tv= .slice Q n k:=by obtain⟨Q,k,e,_⟩:=aqm HMA.out.htraps;exact⟨_,_,_,e⟩
 obtain⟨Qc,nc,kc,rfl⟩:=hcv
 obtain⟨Qt,nt,kt,rfl⟩:=htv
 clear hpc hma hmi
 have hil:=(List.getElem?_eq_some_iff.1 hx).1
 obtain⟨x1,x2,x3,x4,x5,x6,x7,x8,x9,x10,x11,x12⟩:=far bf w.heap.size hbf
 have HFF:=Hq hff
 have HXF:=Hq (hff x (List.mem_of_getElem? hx))
 obtain⟨E,hE⟩: ∃E,cqA c.pool c.acc (dql (fun x:aqA=>cqY c.pool x.name x.desc) (c.mths.take i)) x=E:=⟨_,rfl⟩
 rw [hE]
 obtain⟨sn,hsn⟩: ∃s,(aqg c.pool x.name).getD ⟨#[]⟩=s:=⟨_,rfl⟩
 obtain⟨a1,ha1⟩: ∃s,(aqg c.pool x.name).isSome=s:=⟨_,rfl⟩
 obtain⟨sd,hsd⟩: ∃s,(aqg c.pool x.desc).getD ⟨#[]⟩=s:=⟨_,rfl⟩
 obtain⟨a2,ha2⟩: ∃s,(aqg c.pool x.desc).isSome=s:=⟨_,rfl⟩
 have tsz: ∀n,((aqg c.pool n).getD ⟨#[]⟩).size≤65536:=fun n=>by
  cases hq:aqg c.pool n with
  |none=>exact Nat.zero_le _
  |some s=>exact cqd hq ht
 have hz1:sn.size≤1000000:=by have:=tsz x.name;rw [hsn] at this;omega
 have hz2:sd.size≤1000000:=by have:=tsz x.desc;rw [hsd] at this;omega
 obtain⟨sb,hsb⟩: ∃v,decide ((sn.data.toList,sd.data.toList)∈dql (fun x:aqA=>cqY c.pool x.name x.desc) (c.mths.take i))=v:=⟨_,rfl⟩
 obtain⟨g1,hg1⟩: ∃v,aq6 sn.data.toList=v:=⟨_,rfl⟩
 obtain⟨kv,hkv⟩: ∃v,aqk sd=v:=⟨_,rfl⟩
 obtain⟨ka,kr,kb⟩:=kv
 have hka:ka.size≤16:=by have:=fqD sd;rw [hkv] at this;exact this
 obtain⟨mf,hmf⟩: ∃v,cqD c.acc x.acc sn.data.toList=v:=⟨_,rfl⟩
 obtain⟨r1,hr1⟩: ∃v,(sn.toList== [60,105,110,105,116,62])=v:=⟨_,rfl⟩
 obtain⟨r2,hr2⟩: ∃v,(kr.toList== [86])=v:=⟨_,rfl⟩
 obtain⟨r3,hr3⟩: ∃v,(sn.toList== [60,99,108,105,110,105,116,62])=v:=⟨_,rfl⟩
 obtain⟨r4,hr4⟩: ∃v,(sd.toList== [40,41,86])=v:=⟨_,rfl⟩
 have HE:=Hq (show E=if(!a1|| !a2)=true then 20 else if(!g1)=true then 21 else if(!kb)=true then 22 else if mf=true then 23 else if((r1&& !r2) || (r3&& !r4))=true then 22 else if sb=true then 24 else iqf c.pool x ka.size by
  rw [←hE]
  unfold cqA hqj dqK iqf
  rw [ha1,ha2,hsn,hsd,hg1,hkv,hmf,hsb]
  simp only
  rw [show(sn.data.toList==dqN)=r1 by rw [←hr1,ByteArray.toList_eq];rfl,show(kr.data.toList== [86])=r2 by rw [←hr2,ByteArray.toList_eq],show(sn.data.toList==bqM)=r3 by rw [←hr3,ByteArray.toList_eq];rfl,show(sd.data.toList== [40,41,86])=r4 by rw [←hr4,ByteArray.toList_eq]])
 have HSN:=Hq hsn
 have HA1:=Hq ha1
 have HSD:=Hq hsd
 have HA2:=Hq ha2
 have HSB:=Hq hsb
 have HC1:=Hq (fun W=>fqI sn W hz1)
 rw [hg1] at HC1
 have HC2:=Hq (fun W=>cqL sd W hz2)
 rw [hkv] at HC2
 have HC3:=Hq (fun p i f m W=>jqH (c:=c) p i f m x.acc sn W)
 rw [hmf] at HC3
 have HKA:=Hq hka
 have R1:=Hq ((R5.start h).alloc (.cells #[.int .i64 x.acc, .int .i64 x.name, .int .i64 x.desc, .bool x.has, .int .i64 x.stack, .int .i64 x.locals, .slice Qc nc kc, .slice Qt nt kt] 37))
 have F1:=Hq (aql (w.alloc (.cells #[.int .i64 c.minor, .int .i64 c.major, .slice A c.pool.length cap, .int .i64 c.acc, .int .i64 c.this, .int .i64 c.sup,ifs,flds, .slice (some ⟨bf,off,none⟩) c.mths.length k3] 28)) [.int .i64 x.acc, .int .i64 x.name, .int .i64 x.desc, .bool x.has, .int .i64 x.stack, .int .i64 x.locals, .slice Qc nc kc, .slice Qt nt kt] 37 (w.heap.size+1) (by simp))
 clear h hl hx hff ht hE tsz hsn hsd ha1 ha2 hsb hms hg1 hkv hmf hka
 rw [aqe]
 go_enter Tryz.func73,Tryz.ntmps73
 have f1:=F1.out.cell 1 rfl
 go_wp2_with (first
  | (refine wpList_load_row rfl _ _ rfl w.heap.size rfl _ _ _ _ R1.out.bx Tryz.underlying28 rfl (by kernel_rfl) ?_)
  | (go_at_call 143;refine aqa ?_))
 refine aqb ?_
 refine(dqV R1.out HXF.out.1).mono ?_
 rintro e w2 ⟨rfl,hb⟩
 simp only [dqc]
 rw [HSN.out,HA1.out]
 have Rw2:=Hq (R1.out.below hb)
 have Fw2:=Hq (F1.out.below hb F1.out.lt)
 clear hb f1
 have f2:=Fw2.out.cell 2 rfl
 go_wp2_with (first
  | (refine wpList_load_row rfl _ _ rfl w.heap.size rfl _ _ _ _ Rw2.out.bx Tryz.underlying28 rfl (by kernel_rfl) ?_)
  | (go_at_call 143;refine aqa ?_))
 refine aqb ?_
 refine(dqV Rw2.out HXF.out.2.1).mono ?_
 rintro e w3 ⟨rfl,hb⟩
 simp only [dqc]
 rw [HSD.out,HA2.out]
 have Rw3:=Hq (Rw2.out.below hb)
 have Fw3:=Hq (Fw2.out.below hb Fw2.out.lt)
 clear hb f2
 cases a1
 case false=>
  go_wp2_with fail
  go_ret
  exact⟨by rw [HE.out];rfl,Rw3.out.bel⟩
 cases a2
 case false=>
  go_wp2_with fail
  go_ret
  exact⟨by rw [HE.out];rfl,Rw3.out.bel⟩
 go_wp2_with (first
  | (refine wpList_load_row rfl _ _ rfl w.heap.size rfl _ _ _ _ Rw3.out.bx Tryz.underlying28 rfl (by kernel_rfl) ?_)
  | (go_at_call 145;refine aqa ?_))
 refine aqb ?_
 refine(HC1.out _).mono ?_
 rintro e w4 ⟨rfl,hb⟩
 have Rw4:=Hq (Rw3.out.below hb)
 have Fw4:=Hq (Fw3.out.below hb Fw3.out.lt)
 clear hb
 cases g1
 case false=>
  go_wp2_with fail
  go_ret
  exact⟨by rw [HE.out];rfl,Rw4.out.bel⟩
 go_wp2_with (first
  | (refine wpList_load_row rfl _ _ rfl w.heap.size rfl _ _ _ _ Rw4.out.bx Tryz.underlying28 rfl (by kernel_rfl) ?_)
  | (go_at_call 142;refine aqa ?_))
 refine aqb ?_
 refine(HC2.out _).mono ?_
 rintro e w5 ⟨rfl,hb⟩
 have Rw5:=Hq (Rw4.out.below hb)
 have Fw5:=Hq (Fw4.out.below hb Fw4.out.lt)
 clear hb
 cases kb
 case false=>
  go_wp2_with fail
  go_ret
  exact⟨by rw [HE.out];rfl,Rw5.out.bel⟩
 have f0:=Fw5.out.cell 0 rfl
 go_wp2_with (first
  | (refine wpList_load_row rfl _ _ rfl w.heap.size rfl _ _ _ _ Rw5.out.bx Tryz.underlying28 rfl (by kernel_rfl) ?_)
  | (go_at_call 153;refine aqa ?_))
 refine aqb ?_
 refine(HC3.out _ _ _ _ _).mono ?_
 rintro e w6 ⟨rfl,hb⟩
 have Rw6:=Hq (Rw5.out.below hb)
 have Fw6:=Hq (Fw5.out.below hb Fw5.out.lt)
 clear hb f0
 cases mf
 case true=>
  go_wp2_with fail
  go_ret
  exact⟨by rw [HE.out];rfl,Rw6.out.bel⟩
 obtain⟨bad,hbad⟩: ∃u,((r1&& !r2) || (r3&& !r4))=u:=⟨_,rfl⟩
 have HBD:=Hq hbad
 rw [hbad] at HE
 clear hbad
 go_upto_region 15 with fail
 go_cut [77] (fun u wx=>u= .bool bad∧wx=w6)
 case first=>
  cases r1<;>cases r2<;>cases r3<;>cases r4
  all_goals
   go_wp2_with fail
   go_meet
   exact⟨by rw [←HBD.out];rfl,rfl⟩
 case rest=>
 obtain⟨rfl,rfl⟩:=hcut
 cases bad
 case true=>
  go_wp2_with fail
  go_ret
  exact⟨by rw [HE.out];rfl,Rw6.out.bel⟩
 replace HE:=Hq (HE.out.trans (show _=if sb=true then 24 else iqf c.pool x ka.size from rfl))
 go_wp2_with fail
 go_loopw [15] (fun j wr=> ∃m:Nat,m≤i∧j= .int .i64 m∧Hid (R5 w ok c A cap ifs flds (.slice (some ⟨bf,off,none⟩) c.mths.length k3) wr)∧Hid (Bx wr (w.heap.size+1) [.int .i64 x.acc, .int .i64 x.name, .int .i64 x.desc, .bool x.has, .int .i64 x.stack, .int .i64 x.locals, .slice Qc nc kc, .slice Qt nt kt] 37)∧Hid (∀q z,q<m→c.mths[q]?=some z→cqY c.pool z.name z.desc≠(sn.data.toList,sd.data.toList))) (fun j _=>i - (RowKit.intOf j).toNat)
 case atStart=>exact⟨0,by omega,rfl,Rw6,Fw6,Hq (fun q z h=>by omega)⟩
 case round=>
  obtain⟨m,hm,rfl,Rr,Fr,HZ⟩:=hrel
  by_cases hmi:m<i
  ·obtain⟨z,hz⟩: ∃z,c.mths[m]?=some z:=⟨_,List.getElem?_eq_getElem (by omega)⟩
   have HZR:=Hq hz
   have HZF:=Hq (HFF.out z (List.mem_of_getElem? hz))
   have hml:m<c.mths.length:=by omega
   obtain⟨s6,hs6⟩: ∃s,(aqg c.pool z.name).getD ⟨#[]⟩=s:=⟨_,rfl⟩
   obtain⟨b6,hb6⟩: ∃s,(aqg c.pool z.name).isSome=s:=⟨_,rfl⟩
   obtain⟨s7,hs7⟩: ∃s,(aqg c.pool z.desc).getD ⟨#[]⟩=s:=⟨_,rfl⟩
   obtain⟨b7,hb7⟩: ∃s,(aqg c.pool z.desc).isSome=s:=⟨_,rfl⟩
   have HS6:=Hq hs6
   have HB6:=Hq hb6
   have HS7:=Hq hs7
   have HB7:=Hq hb7
   clear hz hs6 hb6 hs7 hb7
   have SK:=Hq (show∀W,R5 w ok c A cap ifs flds (.slice (some ⟨bf,off,none⟩) c.mths.length k3) W→(fun w'=>w'.cell? ⟨w.heap.size,0,none⟩=some (.int .i64 c.minor)∧w'.cell? ⟨w.heap.size,1,none⟩=some (.int .i64 c.major)∧w'.cell? ⟨w.heap.size,2,none⟩=some (.slice A c.pool.length cap)∧w'.cell? ⟨w.heap.size,3,none⟩=some (.int .i64 c.acc)∧w'.cell? ⟨w.heap.size,4,none⟩=some (.int .i64 c.this)∧w'.cell? ⟨w.heap.size,5,none⟩=some (.int .i64 c.sup)∧w'.cell? ⟨w.heap.size,6,none⟩=some (ifs)∧w'.cell? ⟨w.heap.size,7,none⟩=some (flds)∧w'.cell? ⟨w.heap.size,8,none⟩=some (.slice (some ⟨bf,off,none⟩) c.mths.length k3)∧w'.cell? ⟨bf,off+m*8+1,none⟩=some (.int .i64 z.name)) W from fun W hW=>by
    obtain⟨cz,tz,_,_,hmz,e,_,hq⟩:=eqm c _ k3 _ ok ms m z HMS.out (HL.out.keep (bqE.of_below hW.bel)) HZR.out
    cases e
    have q1:=hq 1 _ rfl
    have q2:=hq 2 _ rfl
    rw [←Nat.add_assoc] at q1 q2
    clear hq hmz
    obtain⟨d0,d1,d2,d3,d4,d5,d6,d7,d8⟩:=hW.bx.nine
    exact⟨d0,d1,d2,d3,d4,d5,d6,d7,d8,q1⟩)
   have RD:=Hq (Rr.out.below ((Below.refl wr.heap.size wr).drew))
   go_wp2_with fail
   go_region_held2 (fun w'=>w'.cell? ⟨w.heap.size,0,none⟩=some (.int .i64 c.minor)∧w'.cell? ⟨w.heap.size,1,none⟩=some (.int .i64 c.major)∧w'.cell? ⟨w.heap.size,2,none⟩=some (.slice A c.pool.length cap)∧w'.cell? ⟨w.heap.size,3,none⟩=some (.int .i64 c.acc)∧w'.cell? ⟨w.heap.size,4,none⟩=some (.int .i64 c.this)∧w'.cell? ⟨w.heap.size,5,none⟩=some (.int .i64 c.sup)∧w'.cell? ⟨w.heap.size,6,none⟩=some (ifs)∧w'.cell? ⟨w.heap.size,7,none⟩=some (flds)∧w'.cell? ⟨w.heap.size,8,none⟩=some (.slice (some ⟨bf,off,none⟩) c.mths.length k3)∧w'.cell? ⟨bf,off+m*8+1,none⟩=some (.int .i64 z.name)) (first|exact SK.out _ RD.out|exact SK.out _ Rw7.out) (first
    | (go_simp;go_at_call 143
       refine(dqV RD.out HZF.out.1).mono ?_
       rintro e w7 ⟨rfl,hb⟩
       simp only [dqc]
       rw [HS6.out,HB6.out]
       have Rw7:=Hq (RD.out.below hb)
       have Fw7:=Hq (((Fr.out.below ((Below.refl wr.heap.size wr).drew) Fr.out.lt)).below hb Fr.out.lt)
       clear hb))
   have SZ:=Hq (show∀W,R5 w ok c A cap ifs flds (.slice (some ⟨bf,off,none⟩) c.mths.length k3) W→(fun w'=>w'.cell? ⟨w.heap.size,0,none⟩=some (.int .i64 c.minor)∧w'.cell? ⟨w.heap.size,1,none⟩=some (.int .i64 c.major)∧w'.cell? ⟨w.heap.size,2,none⟩=some (.slice A c.pool.length cap)∧w'.cell? ⟨w.heap.size,3,none⟩=some (.int .i64 c.acc)∧w'.cell? ⟨w.heap.size,4,none⟩=some (.int .i64 c.this)∧w'.cell? ⟨w.heap.size,5,none⟩=some (.int .i64 c.sup)∧w'.cell? ⟨w.heap.size,6,none⟩=some (ifs)∧w'.cell? ⟨w.heap.size,7,none⟩=some (flds)∧w'.cell? ⟨w.heap.size,8,none⟩=some (.slice (some ⟨bf,off,none⟩) c.mths.length k3)∧w'.cell? ⟨bf,off+m*8+2,none⟩=some (.int .i64 z.desc)) W from fun W hW=>by
    obtain⟨cz,tz,_,_,hmz,e,_,hq⟩:=eqm c _ k3 _ ok ms m z HMS.out (HL.out.keep (bqE.of_below hW.bel)) HZR.out
    cases e
    have q1:=hq 1 _ rfl
    have q2:=hq 2 _ rfl
    rw [←Nat.add_assoc] at q1 q2
    clear hq hmz
    obtain⟨d0,d1,d2,d3,d4,d5,d6,d7,d8⟩:=hW.bx.nine
    exact⟨d0,d1,d2,d3,d4,d5,d6,d7,d8,q2⟩)
   have RD:=Hq (Rw7.out.below ((Below.refl w7.heap.size w7).drew))
   go_wp2_with fail
   go_region_held2 (fun w'=>w'.cell? ⟨w.heap.size,0,none⟩=some (.int .i64 c.minor)∧w'.cell? ⟨w.heap.size,1,none⟩=some (.int .i64 c.major)∧w'.cell? ⟨w.heap.size,2,none⟩=some (.slice A c.pool.length cap)∧w'.cell? ⟨w.heap.size,3,none⟩=some (.int .i64 c.acc)∧w'.cell? ⟨w.heap.size,4,none⟩=some (.int .i64 c.this)∧w'.cell? ⟨w.heap.size,5,none⟩=some (.int .i64 c.sup)∧w'.cell? ⟨w.heap.size,6,none⟩=some (ifs)∧w'.cell? ⟨w.heap.size,7,none⟩=some (flds)∧w'.cell? ⟨w.heap.size,8,none⟩=some (.slice (some ⟨bf,off,none⟩) c.mths.length k3)∧w'.cell? ⟨bf,off+m*8+2,none⟩=some (.int .i64 z.desc)) (first|exact SZ.out _ RD.out|exact SZ.out _ Rw8.out) (first
    | (go_simp;go_at_call 143
       refine(dqV RD.out HZF.out.2.1).mono ?_
       rintro e w8 ⟨rfl,hb⟩
       simp only [dqc]
       rw [HS7.out,HB7.out]
       have Rw8:=Hq (RD.out.below hb)
       have Fw8:=Hq (((Fw7.out.below ((Below.refl w7.heap.size w7).drew) Fw7.out.lt)).below hb Fw7.out.lt)
       clear hb))
   have hne: ∀(_: ¬(s6=sn∧s7=sd)), ∀q z,q<m+1→c.mths[q]?=some z→cqY c.pool z.name z.desc≠(sn.data.toList,sd.data.toList):=fun hn q z' h1 h2=>by
    rcases Nat.lt_or_ge q m with h3|h3
    ·exact HZ.out q z' h3 h2
    obtain rfl:q=m:=by omega
    rw [HZR.out] at h2
    cases h2
    unfold cqY
    rw [HS6.out,HS7.out]
    intro h4
    injection h4 with h5 h6
    exact hn ⟨bqZ h5,bqZ h6⟩
   by_cases he1:s6=sn
   case neg=>
    have hq1:(s6.toList==sn.toList)=false:=beq_eq_false_iff_ne.2 fun h=>he1 (bqZ (by rw [←ByteArray.toList_eq, ←ByteArray.toList_eq];exact h))
    have HZ2:=Hq (hne fun h=>he1 h.1)
    clear he1 hne
    go_wp2_with fail
    go_roundw
    case rel=>exact⟨m+1,by omega,by go_num,Rw8,Fw8,HZ2⟩
    case measure=>simp [RowKit.intOf];omega
   have hq1:(s6.toList==sn.toList)=true:=by rw [he1];exact beq_self_eq_true _
   by_cases he2:s7=sd
   case neg=>
    have hq2:(s7.toList==sd.toList)=false:=beq_eq_false_iff_ne.2 fun h=>he2 (bqZ (by rw [←ByteArray.toList_eq, ←ByteArray.toList_eq];exact h))
    have HZ2:=Hq (hne fun h=>he2 h.2)
    clear he1 he2 hne
    go_wp2_with fail
    go_roundw
    case rel=>exact⟨m+1,by omega,by go_num,Rw8,Fw8,HZ2⟩
    case measure=>simp [RowKit.intOf];omega
   have hq2:(s7.toList==sd.toList)=true:=by rw [he2];exact beq_self_eq_true _
   have HM:=Hq (show sb=true by rw [←HSB.out,decide_eq_true_eq];exact eqH.2 ⟨m,z,hmi,HZR.out,by show cqY _ _ _=_;unfold cqY;rw [HS6.out,HS7.out,he1,he2]⟩)
   clear he1 he2 hne
   go_wp2_with fail
   go_ret
   exact⟨by rw [HE.out,if_pos HM.out];rfl,Rw8.out.bel⟩
  obtain rfl:m=i:=by omega
  have HM:=Hq (show sb=false by
   rw [←HSB.out,decide_eq_false_iff_not]
   intro hm
   obtain⟨q,z,h1,h2,h3⟩:=eqH.1 hm
   exact HZ.out q z h1 h2 h3)
  replace HE:=Hq (HE.out.trans (show _=iqf c.pool x ka.size by rw [HM.out];rfl))
  have hsx:((ka.toList.length:Nat):Int)=(ka.size:Int):=by rw [ByteArray.toList_eq];simp
  have hka16:=HKA.out
  go_wp2_with (first
   | (refine wpList_load_row rfl _ _ rfl w.heap.size rfl _ _ _ _ Rr.out.bx Tryz.underlying28 rfl (by kernel_rfl) ?_)
   | (refine wpList_load_row rfl _ _ rfl (w.heap.size+1) rfl _ _ _ _ Fr.out Tryz.underlying37 rfl (by kernel_rfl) ?_)
   | (go_at_call 154;refine aqa ?_))
  refine aqb ?_
  refine(lqb c A cap ifs flds (.slice (some ⟨bf,off,none⟩) c.mths.length k3) ok ok x _ _ ka.size _ Rr.out.bk ⟨HMA.out.hcode.keep (bqE.of_below Rr.out.bel),HMA.out.htraps.keep (bqE.of_below Rr.out.bel)⟩ (fun t ht=> (HXF.out.2.2.2.2 t ht).2.2.2) (by omega)).mono ?_
  rintro e w9 ⟨rfl,hb⟩
  have R9:=Hq (Rr.out.below hb)
  clear hb
  go_wp2_with fail
  go_ret
  exact⟨by rw [HE.out];rfl,R9.out.bel⟩
theorem jqJ {pool:List Ko} {acc:Int} {seen:List NmD} {x:aqB} (h:dqj pool acc seen x=0):eq6 pool acc x=false:=by
 unfold dqj hqi at h
 unfold eq6
 generalize (!(aqg pool x.name).isSome|| !(aqg pool x.desc).isSome)=b1 at*
 generalize (!bqr (cqY pool x.name x.desc).1)=b2 at*
 generalize (!aqx (cqY pool x.name x.desc).2)=b3 at*
 generalize bq0 acc x.acc=b4 at*
 cases b1<;>cases b2<;>cases b3<;>cases b4<;>first|rfl|simp at h
theorem jqK {pool:List Ko} {acc:Int} {seen:List NmD} {x:aqA} (h:cqA pool acc seen x=0):eq7 pool acc x=false:=by
 unfold cqA hqj at h
 unfold eq7
 generalize (!(aqg pool x.name).isSome|| !(aqg pool x.desc).isSome)=b1 at*
 generalize (!aq6 ((aqg pool x.name).getD ⟨#[]⟩).data.toList)=b2 at*
 generalize (!(aqk ((aqg pool x.desc).getD ⟨#[]⟩)).2.2)=b3 at*
 generalize cqD acc x.acc ((aqg pool x.name).getD ⟨#[]⟩).data.toList=b4 at*
 generalize dqK ((aqg pool x.name).getD ⟨#[]⟩).data.toList (aqk ((aqg pool x.desc).getD ⟨#[]⟩)).2.1.data.toList ((aqg pool x.desc).getD ⟨#[]⟩).data.toList=b5 at*
 cases b1<;>cases b2<;>cases b3<;>cases b4<;>cases b5<;>first|rfl|simp at h
theorem iqg {pool:List Ko} {acc:Int} {l:List aqB} {k:Nat} {x:aqB} (hx:l[k]?=some x) (hs:bqQ pool acc (l.take k)=dql (fun x:aqB=>cqY pool x.name x.desc) (l.take k)) (hb:eq6 pool acc x=false):
  bqQ pool acc (l.take (k+1))=dql (fun x:aqB=>cqY pool x.name x.desc) (l.take (k+1)):=by
 rw [List.take_add_one,hx]
 unfold bqQ dql at*
 rw [Option.toList_some,List.foldl_append,hs,List.foldl_cons,List.foldl_nil,hb]
 simp
theorem iqh {pool:List Ko} {acc:Int} {l:List aqA} {k:Nat} {x:aqA} (hx:l[k]?=some x) (hs:bqv pool acc (l.take k)=dql (fun x:aqA=>cqY pool x.name x.desc) (l.take k)) (hb:eq7 pool acc x=false):
  bqv pool acc (l.take (k+1))=dql (fun x:aqA=>cqY pool x.name x.desc) (l.take (k+1)):=by
 rw [List.take_add_one,hx]
 unfold bqv dql at*
 rw [Option.toList_some,List.foldl_append,hs,List.foldl_cons,List.foldl_nil,hb]
 simp
theorem lqc {pool:List Ko} (h: ∀k∈pool,gqq pool k=0) (n:Int):(aqq pool n 7).isSome=(bqk pool n).isSome:=by
 unfold bqk
 rcases hk:aqq pool n 7 with _|k
 ·rfl
 have h1:=cql hk
 have h2:=h k h1.1
 unfold gqq at h2
 rw [if_pos h1.2] at h2
 unfold eqC at h2
 show true=(aqg pool k.a).isSome
 cases ht:aqg pool k.a with
 |none=>rw [ht] at h2;cases h2
 |some s=>rfl
theorem jqL (c:aqj) (p i f m:Value) (ok:Nat→Prop) (w:World) (h:aq9 w ok c p i f m) (hF:eqE c):
  Calls Tryz.prog 31 #[bqp c p i f m] w fun e w'=>e= .returned (.int .i64 (aq1 c))∧Below w.heap.size w w':=by
 obtain⟨A1,k1,rfl,q1,z1⟩:=aqm h.hpool
 obtain⟨A2,k2,rfl,q2,z2⟩:=aqm h.hifs
 obtain⟨A3,k3,rfl,q3,z3⟩:=aqm h.hflds
 obtain⟨ms,m1,m2,m3⟩:=h.hmths
 obtain⟨A4,k4,rfl,q4,z4⟩:=aqm m2
 obtain⟨E,hE⟩: ∃E,aq1 c=E:=⟨_,rfl⟩
 obtain⟨lg,hlg⟩: ∃b,eqB c=b:=⟨_,rfl⟩
 obtain⟨b1,hb1⟩: ∃v,decide (c.major<45)=v:=⟨_,rfl⟩
 obtain⟨b2,hb2⟩: ∃v,decide (52<c.major)=v:=⟨_,rfl⟩
 obtain⟨T,hT⟩: ∃T:Int,(if cqE c≠0 then cqE c else if aqU (fun l x=>dqj c.pool c.acc (bqQ c.pool c.acc l) x) [] c.flds≠0 then aqU (fun l x=>dqj c.pool c.acc (bqQ c.pool c.acc l) x) [] c.flds else aqU (fun l x=>cqA c.pool c.acc (bqv c.pool c.acc l) x) [] c.mths)=T:=⟨_,rfl⟩
 have HE:=Hq (show E=if lg=true then 2 else if(b1||b2)=true then 12 else if cqs (gqq c.pool) c.pool≠0 then cqs (gqq c.pool) c.pool else T by
  rw [←hE]
  unfold aq1 gql
  rw [hT,hlg, ←hb1, ←hb2]
  simp only [Bool.or_eq_true,decide_eq_true_eq])
 rw [hE]
 have HT:=Hq hT
 have HC:=Hq h
 have HLG:=Hq hlg
 have HFF:=Hq hF
 have BK:=Hq (show aqQ w ok c A1 k1 (.slice A2 c.ifs.length k2) (.slice A3 c.flds.length k3) (.slice A4 c.mths.length k4) from⟨h.hpool,rfl,rfl,rfl⟩)
 have R0:=Hq (R5.start BK.out)
 have HTX:=Hq (show∀k∈c.pool,k.text.size≤65536 from fun k hk=> (hF.pool k hk).2.2.1)
 clear h hF hE hlg hT m1 m2 m3
 rw [aqe]
 go_enter Tryz.func31,Tryz.ntmps31
 go_wp2_with (first
  | (refine wpList_load_row rfl _ _ rfl w.heap.size rfl _ _ _ _ R0.out.bx Tryz.underlying28 rfl (by kernel_rfl) ?_)
  | (go_at_call 69;refine aqa ?_))
 refine aqb ?_
 refine(kq8 c _ _ _ _ ok _ (HC.out.keep (bqE.of_below R0.out.bel))).mono ?_
 rw [HLG.out]
 rintro e w1 ⟨rfl,hb⟩
 have R1:=Hq (R0.out.below hb)
 have c1:=R1.out.bx.cell 1 rfl
 clear hb
 cases lg
 case true=>
  go_wp2_with fail
  go_ret
  exact⟨by rw [HE.out];rfl,R1.out.bel⟩
 cases b1
 case true=>
  go_wp2_with fail
  go_ret
  exact⟨by rw [HE.out];rfl,R1.out.bel⟩
 cases b2
 case true=>
  go_wp2_with fail
  go_ret
  exact⟨by rw [HE.out];rfl,R1.out.bel⟩
 replace HE:=Hq (HE.out.trans (show _=if cqs (gqq c.pool) (c.pool.drop 0)≠0 then cqs (gqq c.pool) (c.pool.drop 0) else T from rfl))
 go_wp2_with fail
 clear c1
 go_loopw [4] (fun i wr=> ∃k:Nat,k≤c.pool.length∧i= .int .i64 k∧Hid (R5 w ok c A1 k1 (.slice A2 c.ifs.length k2) (.slice A3 c.flds.length k3) (.slice A4 c.mths.length k4) wr)∧Hid (E=if cqs (gqq c.pool) (c.pool.drop k)≠0 then cqs (gqq c.pool) (c.pool.drop k) else T)∧Hid (∀q x,q<k→c.pool[q]?=some x→gqq c.pool x=0)) (fun i _=>c.pool.length - (RowKit.intOf i).toNat)
 case atStart=>exact⟨0,by omega,rfl,R1,HE,Hq (fun q x h=>by omega)⟩
 case round=>
  obtain⟨k,hk,rfl,Rr,HEr,HZ⟩:=hrel
  have c2:=Rr.out.bx.cell 2 rfl
  by_cases hlt:k<c.pool.length
  ·obtain⟨x,hx⟩: ∃x,c.pool[k]?=some x:=⟨_,List.getElem?_eq_getElem hlt⟩
   obtain⟨bp,op,rfl,hbp,_,_,_,_,_⟩:=bq4 BK.out.hp k x hx
   have HX:=Hq hx
   have hxm:=List.mem_of_getElem? hx
   obtain⟨v,hv⟩: ∃v,gqq c.pool x=v:=⟨_,rfl⟩
   have HV:=Hq hv
   have HM:=Hq (HEr.out.trans (show _=if v≠0 then v else if cqs (gqq c.pool) (c.pool.drop (k+1))≠0 then cqs (gqq c.pool) (c.pool.drop (k+1)) else T by
    rw [fqA hx,hv]
    by_cases h0:v=0
    ·simp [h0]
    simp [h0]))
   have SK:=Hq (show∀W,R5 w ok c (some ⟨bp,op,none⟩) k1 (.slice A2 c.ifs.length k2) (.slice A3 c.flds.length k3) (.slice A4 c.mths.length k4) W→(fun w'=>w'.cell? ⟨w.heap.size,0,none⟩=some (.int .i64 c.minor)∧w'.cell? ⟨w.heap.size,1,none⟩=some (.int .i64 c.major)∧w'.cell? ⟨w.heap.size,2,none⟩=some (.slice (some ⟨bp,op,none⟩) c.pool.length k1)∧w'.cell? ⟨w.heap.size,3,none⟩=some (.int .i64 c.acc)∧w'.cell? ⟨w.heap.size,4,none⟩=some (.int .i64 c.this)∧w'.cell? ⟨w.heap.size,5,none⟩=some (.int .i64 c.sup)∧w'.cell? ⟨w.heap.size,6,none⟩=some (.slice A2 c.ifs.length k2)∧w'.cell? ⟨w.heap.size,7,none⟩=some (.slice A3 c.flds.length k3)∧w'.cell? ⟨w.heap.size,8,none⟩=some (.slice A4 c.mths.length k4)∧w'.cell? ⟨bp,op+k*5,none⟩=some (.int .i64 x.tag)∧w'.cell? ⟨bp,op+k*5+1,none⟩=some (.string x.text)∧w'.cell? ⟨bp,op+k*5+2,none⟩=some (.int .i64 x.num)∧w'.cell? ⟨bp,op+k*5+3,none⟩=some (.int .i64 x.a)∧w'.cell? ⟨bp,op+k*5+4,none⟩=some (.int .i64 x.b)) W from fun W hW=>by
    obtain⟨_,_,e,_,p0,p1,p2,p3,p4⟩:=bq4 hW.bk.hp k x hx
    cases e
    obtain⟨d0,d1,d2,d3,d4,d5,d6,d7,d8⟩:=hW.bx.nine
    exact⟨d0,d1,d2,d3,d4,d5,d6,d7,d8,p0,p1,p2,p3,p4⟩)
   clear hx hv
   have RD:=Hq (Rr.out.below ((Below.refl wr.heap.size wr).drew))
   go_wp2_with fail
   clear c2
   go_region_held2 (fun w'=>w'.cell? ⟨w.heap.size,0,none⟩=some (.int .i64 c.minor)∧w'.cell? ⟨w.heap.size,1,none⟩=some (.int .i64 c.major)∧w'.cell? ⟨w.heap.size,2,none⟩=some (.slice (some ⟨bp,op,none⟩) c.pool.length k1)∧w'.cell? ⟨w.heap.size,3,none⟩=some (.int .i64 c.acc)∧w'.cell? ⟨w.heap.size,4,none⟩=some (.int .i64 c.this)∧w'.cell? ⟨w.heap.size,5,none⟩=some (.int .i64 c.sup)∧w'.cell? ⟨w.heap.size,6,none⟩=some (.slice A2 c.ifs.length k2)∧w'.cell? ⟨w.heap.size,7,none⟩=some (.slice A3 c.flds.length k3)∧w'.cell? ⟨w.heap.size,8,none⟩=some (.slice A4 c.mths.length k4)∧w'.cell? ⟨bp,op+k*5,none⟩=some (.int .i64 x.tag)∧w'.cell? ⟨bp,op+k*5+1,none⟩=some (.string x.text)∧w'.cell? ⟨bp,op+k*5+2,none⟩=some (.int .i64 x.num)∧w'.cell? ⟨bp,op+k*5+3,none⟩=some (.int .i64 x.a)∧w'.cell? ⟨bp,op+k*5+4,none⟩=some (.int .i64 x.b)) (first|exact SK.out _ RD.out|exact SK.out _ R4.out) (first
    | (go_simp;go_at_call 70
       refine(mqQ c _ k1 _ _ _ ok _ RD.out.bk HFF.out.pool x hxm).mono ?_
       rw [HV.out]
       rintro e w4 ⟨rfl,hb⟩
       have R4:=Hq (RD.out.below hb)
       clear hb))
   by_cases h0:v=0
   ·subst h0
    have HM2:=Hq (HM.out.trans (if_neg (by simp)))
    have HZ2:=Hq (show∀q x,q<k+1→c.pool[q]?=some x→gqq c.pool x=0 from fun q y h1 h2=>by
     rcases Nat.lt_or_ge q k with h3|h3
     ·exact HZ.out q y h3 h2
     obtain rfl:q=k:=by omega
     rw [HX.out] at h2
     cases h2
     exact HV.out)
    go_wp2_with fail
    go_roundw
    case rel=>exact⟨k+1,by omega,by go_num,R4,HM2,HZ2⟩
    case measure=>simp [RowKit.intOf];omega
   have hq:(v !=0)=true:=by simpa using h0
   have HM2:=Hq (HM.out.trans (if_pos h0))
   clear h0
   go_wp2_with fail
   go_ret
   exact⟨by rw [HM2.out];rfl,R4.out.bel⟩
  have HNM:=Hq (lqc (pool:=c.pool) fun y hy=>by
   obtain⟨q,hq⟩:=List.mem_iff_getElem?.1 hy
   exact HZ.out q y (by have:=(List.getElem?_eq_some_iff.1 hq).1;omega) hq)
  replace HEr:=Hq (show E=T by rw [HEr.out,List.drop_of_length_le (by omega)];rfl)
  clear HE
  go_wp2_with (first
   | (refine wpList_load_row rfl _ _ rfl w.heap.size rfl _ _ _ _ Rr.out.bx Tryz.underlying28 rfl (by kernel_rfl) ?_)
   | (go_at_call 71;refine aqa ?_))
  refine aqb ?_
  refine(lqa c _ _ _ _ _ ok _ Rr.out.bk (HC.out.hifs.keep (bqE.of_below Rr.out.bel)) HFF.out.this HFF.out.sup (fun k hk=> (HFF.out.pool k hk).1) HFF.out.ifs HNM.out).mono ?_
  rintro e w5 ⟨rfl,hb⟩
  obtain⟨H,hH⟩: ∃H,cqE c=H:=⟨_,rfl⟩
  rw [hH]
  have HE:=Hq (show E=if H≠0 then H else if aqU (fun l x=>dqj c.pool c.acc (bqQ c.pool c.acc l) x) (c.flds.take 0) (c.flds.drop 0)≠0 then aqU (fun l x=>dqj c.pool c.acc (bqQ c.pool c.acc l) x) (c.flds.take 0) (c.flds.drop 0) else aqU (fun l x=>cqA c.pool c.acc (bqv c.pool c.acc l) x) [] c.mths by rw [HEr.out, ←HT.out,hH];rfl)
  have Rw5:=Hq (Rr.out.below hb)
  clear hb hH HEr c2
  go_wp2_with fail
  go_loopw [6,7] (fun ev i wr=> ∃(k:Nat) (v:Int),k≤c.flds.length∧i= .int .i64 k∧ev= .int .i64 v∧Hid (R5 w ok c A1 k1 (.slice A2 c.ifs.length k2) (.slice A3 c.flds.length k3) (.slice A4 c.mths.length k4) wr)∧Hid (E=if v≠0 then v else if aqU (fun l x=>dqj c.pool c.acc (bqQ c.pool c.acc l) x) (c.flds.take k) (c.flds.drop k)≠0 then aqU (fun l x=>dqj c.pool c.acc (bqQ c.pool c.acc l) x) (c.flds.take k) (c.flds.drop k) else aqU (fun l x=>cqA c.pool c.acc (bqv c.pool c.acc l) x) [] c.mths)∧Hid (v=0→bqQ c.pool c.acc (c.flds.take k)=dql (fun x:aqB=>cqY c.pool x.name x.desc) (c.flds.take k))) (fun _ i _=>c.flds.length - (RowKit.intOf i).toNat)
  case atStart=>exact⟨0,H,by omega,rfl,rfl,Rw5,HE,Hq (fun _=>rfl)⟩
  case round=>
   obtain⟨k,v,hk,rfl,rfl,Rr,HEr,HS⟩:=hrel
   have c7:=Rr.out.bx.cell 7 rfl
   by_cases hlt:k<c.flds.length∧v=0
   ·obtain⟨hlt,rfl⟩:=hlt
    obtain⟨x,hx⟩: ∃x,c.flds[k]?=some x:=⟨_,List.getElem?_eq_getElem hlt⟩
    have HX:=Hq hx
    obtain⟨u,hu⟩: ∃u,dqj c.pool c.acc (bqQ c.pool c.acc (c.flds.take k)) x=u:=⟨_,rfl⟩
    have HU:=Hq (show dqj c.pool c.acc (dql (fun x:aqB=>cqY c.pool x.name x.desc) (c.flds.take k)) x=u by rw [←HS.out rfl];exact hu)
    have HE2:=Hq (HEr.out.trans (show _=if u≠0 then u else if aqU (fun l x=>dqj c.pool c.acc (bqQ c.pool c.acc l) x) (c.flds.take (k+1)) (c.flds.drop (k+1))≠0 then aqU (fun l x=>dqj c.pool c.acc (bqQ c.pool c.acc l) x) (c.flds.take (k+1)) (c.flds.drop (k+1)) else aqU (fun l x=>cqA c.pool c.acc (bqv c.pool c.acc l) x) [] c.mths by
     rw [if_neg (by simp),dqB hx,hu]
     by_cases h0:u=0
     ·simp [h0]
     simp [h0]))
    have HS2:=Hq (show u=0→bqQ c.pool c.acc (c.flds.take (k+1))=dql (fun x:aqB=>cqY c.pool x.name x.desc) (c.flds.take (k+1)) from fun h0=>iqg hx (HS.out rfl) (jqJ (hu.trans h0)))
    clear hx hu
    go_wp2_with (first
     | (refine wpList_load_row rfl _ _ rfl w.heap.size rfl _ _ _ _ Rr.out.bx Tryz.underlying28 rfl (by kernel_rfl) ?_)
     | (go_at_call 72;refine aqa ?_))
    refine aqb ?_
    refine(mqS c _ _ _ _ _ ok k x _ Rr.out.bk (HC.out.hflds.keep (bqE.of_below Rr.out.bel)) HX.out HFF.out.flds HTX.out).mono ?_
    rw [HU.out]
    rintro e w6 ⟨rfl,hb⟩
    have R6:=Hq (Rr.out.below hb)
    clear hb
    go_wp2_with fail
    go_roundw
    case rel=>exact⟨k+1,u,by omega,by go_num,rfl,R6,HE2,HS2⟩
    case measure=>simp [RowKit.intOf];omega
   have HEm:=Hq (show E=if v≠0 then v else aqU (fun l x=>cqA c.pool c.acc (bqv c.pool c.acc l) x) (c.mths.take 0) (c.mths.drop 0) by
    rw [HEr.out]
    by_cases h0:v=0
    ·have e0:aqU (fun l x=>dqj c.pool c.acc (bqQ c.pool c.acc l) x) (c.flds.take k) (c.flds.drop k)=0:=by rw [List.drop_of_length_le (Nat.le_of_not_lt fun h=>hlt ⟨h,h0⟩)];rfl
     rw [e0,if_neg (by simp [h0]),if_neg (by simp),if_neg (by simp [h0])]
     rfl
    rw [if_pos h0,if_pos h0])
   have hcb:(¬k<c.flds.length)∨(k<c.flds.length∧(v==0)=false):=by
    by_cases h1:k<c.flds.length
    ·exact .inr ⟨h1,by rw [beq_eq_false_iff_ne];intro h0;exact hlt ⟨h1,h0⟩⟩
    exact .inl h1
   replace HEm:=Hq (show E=if v≠0 then v else if aqU (fun l x=>cqA c.pool c.acc (bqv c.pool c.acc l) x) (c.mths.take 0) (c.mths.drop 0)≠0 then aqU (fun l x=>cqA c.pool c.acc (bqv c.pool c.acc l) x) (c.mths.take 0) (c.mths.drop 0) else(0:Int) by
    rw [HEm.out]
    by_cases h1:aqU (fun l x=>cqA c.pool c.acc (bqv c.pool c.acc l) x) (c.mths.take 0) (c.mths.drop 0)=0
    ·rw [h1];rfl
    rw [if_pos (c:=aqU (fun l x=>cqA c.pool c.acc (bqv c.pool c.acc l) x) (c.mths.take 0) (c.mths.drop 0)≠0) h1])
   clear HEr hlt HE
   rcases hcb with hcl| ⟨hcl,hcv⟩
   all_goals
    go_wp2_with fail
    go_loopw [6,8] (fun ev i wr=> ∃(k:Nat) (v:Int),k≤c.mths.length∧i= .int .i64 k∧ev= .int .i64 v∧Hid (R5 w ok c A1 k1 (.slice A2 c.ifs.length k2) (.slice A3 c.flds.length k3) (.slice A4 c.mths.length k4) wr)∧Hid (E=if v≠0 then v else if aqU (fun l x=>cqA c.pool c.acc (bqv c.pool c.acc l) x) (c.mths.take k) (c.mths.drop k)≠0 then aqU (fun l x=>cqA c.pool c.acc (bqv c.pool c.acc l) x) (c.mths.take k) (c.mths.drop k) else(0:Int))∧Hid (v=0→bqv c.pool c.acc (c.mths.take k)=dql (fun x:aqA=>cqY c.pool x.name x.desc) (c.mths.take k))) (fun _ i _=>c.mths.length - (RowKit.intOf i).toNat)
    case atStart=>exact⟨0,v,by omega,rfl,rfl,Rr,HEm,Hq (fun _=>rfl)⟩
    case round=>
     obtain⟨k,v,hk,rfl,rfl,Rq,HEr,HS⟩:=hrel
     have c8:=Rq.out.bx.cell 8 rfl
     by_cases hlt:k<c.mths.length∧v=0
     ·obtain⟨hlt,rfl⟩:=hlt
      obtain⟨x,hx⟩: ∃x,c.mths[k]?=some x:=⟨_,List.getElem?_eq_getElem hlt⟩
      have HX:=Hq hx
      obtain⟨u,hu⟩: ∃u,cqA c.pool c.acc (bqv c.pool c.acc (c.mths.take k)) x=u:=⟨_,rfl⟩
      have HU:=Hq (show cqA c.pool c.acc (dql (fun x:aqA=>cqY c.pool x.name x.desc) (c.mths.take k)) x=u by rw [←HS.out rfl];exact hu)
      have HE2:=Hq (HEr.out.trans (show _=if u≠0 then u else if aqU (fun l x=>cqA c.pool c.acc (bqv c.pool c.acc l) x) (c.mths.take (k+1)) (c.mths.drop (k+1))≠0 then aqU (fun l x=>cqA c.pool c.acc (bqv c.pool c.acc l) x) (c.mths.take (k+1)) (c.mths.drop (k+1)) else(0:Int) by
       rw [if_neg (by simp),dqB hx,hu]
       by_cases h0:u=0
       ·simp [h0]
       simp [h0]))
      have HS2:=Hq (show u=0→bqv c.pool c.acc (c.mths.take (k+1))=dql (fun x:aqA=>cqY c.pool x.name x.desc) (c.mths.take (k+1)) from fun h0=>iqh hx (HS.out rfl) (jqK (hu.trans h0)))
      clear hx hu
      go_wp2_with (first
       | (refine wpList_load_row rfl _ _ rfl w.heap.size rfl _ _ _ _ Rq.out.bx Tryz.underlying28 rfl (by kernel_rfl) ?_)
       | (go_at_call 73;refine aqa ?_))
      refine aqb ?_
      refine(mqT c _ _ _ _ _ ok k x _ Rq.out.bk (HC.out.keep (bqE.of_below Rq.out.bel)).hmths HX.out HFF.out.mths HTX.out).mono ?_
      rw [HU.out]
      rintro e w6 ⟨rfl,hb⟩
      have R6:=Hq (Rq.out.below hb)
      clear hb
      go_wp2_with fail
      go_roundw
      case rel=>exact⟨k+1,u,by omega,by go_num,rfl,R6,HE2,HS2⟩
      case measure=>simp [RowKit.intOf];omega
     have HEz:=Hq (show E=if v≠0 then v else 0 by
      rw [HEr.out]
      by_cases h0:v=0
      ·have e0:aqU (fun l x=>cqA c.pool c.acc (bqv c.pool c.acc l) x) (c.mths.take k) (c.mths.drop k)=0:=by rw [List.drop_of_length_le (Nat.le_of_not_lt fun h=>hlt ⟨h,h0⟩)];rfl
       rw [e0,if_neg (by simp [h0]),if_neg (by simp),if_neg (by simp [h0])]
      rw [if_pos h0,if_pos h0])
     have hcb:(¬k<c.mths.length)∨(k<c.mths.length∧(v==0)=false):=by
      by_cases h1:k<c.mths.length
      ·exact .inr ⟨h1,by rw [beq_eq_false_iff_ne];intro h0;exact hlt ⟨h1,h0⟩⟩
      exact .inl h1
     replace HEz:=Hq (show E=v by
      rw [HEz.out]
      by_cases h0:v=0
      ·rw [h0];rfl
      rw [if_pos h0])
     rcases hcb with hcl| ⟨hcl,hcv⟩
     all_goals
      go_wp2_with fail
      go_ret
      exact⟨by rw [HEz.out];rfl,Rq.out.bel⟩
end Go.Proofs.YtlcidkiplidamaaGreatDoor
namespace Go.Proofs.YtlcidkiplidamaaGreatDoor
open Go Go.RowKit Lib
section Until
variable {P:Program} {ops:Array Oper} {Q:Exit→Act→World→Prop} {S:World→Prop} {z:Nat}
def wpUn (P:Program) (ops:Array Oper) (Q:Exit→Act→World→Prop) (S:World→Prop) (z:Nat):Nat→Array Bool→Act→World→Prop
 |0,L,a,w=>Region.ready .any ops L= []∧Q .normal a w
 |f+1,L,a,w=> (Region.ready .any ops L= []→Q .normal a w)∧ ∀i∈Region.ready .any ops L,wpOp P ops Q i (fun a' w'=> (i≠z→S w')∧wpUn P ops Q S z f (L.setIfInBounds i true) a' w') a w
theorem any_of_un: ∀(f:Nat) (L:Array Bool) (a:Act) (w:World),wpUn P ops Q S z f L a w→wpAny P .any ops Q f L a w
 |0,_,_,_,h=>h
 |f+1,_,_,_,h=> ⟨h.1,fun i hi=>wpOp_mono (fun a' w' k=>any_of_un f _ a' w' k.2) (h.2 i hi)⟩
def waitsB (ops:Array Oper) (z i:Nat):Bool:=match ops[z]? with|some o=>o.after.any fun e=>Region.binds .any e&&e.on==i|none=>false
theorem un_first {i:Nat} {oi:Oper} {v:Value} (hi:ops[i]?=some oi) (hw:waitsB ops z i=true) (hs:Region.noSelect ops=true) (hQ: ∀c a w,Q (.panic c) (a.put oi.dst v) w→Q (.panic c) a w):
  ∀(f:Nat) (L:Array Bool) (a:Act) (w:World),(∀j oj,ops[j]?=some oj→j≠i→L.getD j true=false→(∀e∈oj.after,Region.binds .any e=true→e.on≠i)→oi.apart ops oj=true)→i∈Region.ready .any ops L→YieldsIf P ops S oi v a→S w→
   wpUn P ops Q S z f (L.setIfInBounds i true) (a.put oi.dst v) w→wpUn P ops Q S z (f+1) L a w:=by
 have hsel:=Region.noSelect_spec hs
 intro f
 induction f with
 |zero=>
  intro L a w hfr hr hy hS H
  refine⟨fun h=> (by rw [h] at hr;cases hr),fun j hj=> ?_⟩
  by_cases hji:j=i
  ·subst hji
   exact hy.wpOp hi hS ⟨fun _=>hS,H⟩
  ·have:=ready_mono hj hji
   rw [H.1] at this
   cases this
 |succ f ih=>
  intro L a w hfr hr hy hS H
  refine⟨fun h=> (by rw [h] at hr;cases hr),fun j hj=> ?_⟩
  by_cases hji:j=i
  ·subst hji
   exact hy.wpOp hi hS ⟨fun _=>hS,H⟩
  obtain⟨hjun,oj,hoj,hall⟩:=mem_ready.1 hj
  have hno: ∀e∈oj.after,Region.binds .any e=true→e.on≠i:=fun e he hb heq=>by
   have h1:=hall e he hb
   have h0:=(mem_ready.1 hr).1
   rw [heq] at h1
   rcases Nat.lt_or_ge i L.size with h'|h'
   ·simp [h'] at h0 h1
    rw [h0] at h1
    cases h1
   simp [Array.getElem?_eq_none h'] at h1
  have hjz:j≠z:=by
   rintro rfl
   unfold waitsB at hw
   rw [hoj] at hw
   obtain⟨e,he,h2⟩:=Array.any_eq_true'.1 hw
   simp only [Bool.and_eq_true,beq_iff_eq] at h2
   exact hno e he h2.1 h2.2
  have h2:=wpOp_putIf hoj (hfr j oj hoj hji hjun hno) (fun cs b=>hsel i oi cs b hi) (fun cs b=>hsel j oj cs b hoj) hQ hy (H.2 j (ready_mono hj hji))
  refine wpOp_mono (fun a' w' h3=> ⟨h3.2.1,ih (L.setIfInBounds j true) a' w' (fun k ok hk hki hun hn=> ?_) (ready_mono hr (Ne.symm hji)) h3.1 (h3.2.1 hjz) ?_⟩) h2
  ·refine hfr k ok hk hki ?_ hn
   by_cases hjk:j=k
   ·subst hjk
    exact hjun
   rw [getD_set_ne true hjk] at hun
   exact hun
  rw [Array.setIfInBounds_comm _ _ hji]
  exact h3.2.2
def unB (ops:Array Oper) (L:Array Bool) (z i:Nat):Bool:=Region.noSelect ops&&Region.free .any ops L i&&(Region.ready .any ops L).contains i&&waitsB ops z i
theorem un_take (i:Nat) {oi:Oper} (v:Value) {f:Nat} {L:Array Bool} {a:Act} {w:World} (hi:ops[i]?=some oi) (hb:unB ops L z i=true) (hQ: ∀c a w,Q (.panic c) (a.put oi.dst v) w→Q (.panic c) a w)
  (hw:Region.wanted oi (yielded ops a.tmps)=true) (hy: ∀w,S w→(execOp a.eval oi).run P w= .ok (.value v) w) (hS:S w) (h:wpUn P ops Q S z f (L.setIfInBounds i true) (a.put oi.dst v) w):wpUn P ops Q S z (f+1) L a w:=by
 simp only [unB,Bool.and_eq_true] at hb
 obtain⟨⟨⟨h1,h2⟩,h3⟩,h4⟩:=hb
 exact un_first hi h4 h1 hQ f L a w (Region.free_spec hi h2) (by simpa using h3) (.inl ⟨hw,hy⟩) hS h
def TkGo (P:Program) (ops:Array Oper) (S:World→Prop):List Nat→Act→(Act→Prop)→Prop
 | [],a,K=>K a
 |i::r,a,K=> ∃oi v,ops[i]?=some oi∧Region.wanted oi (yielded ops a.tmps)=true∧(∀w,S w→(execOp a.eval oi).run P w= .ok (.value v) w)∧TkGo P ops S r (a.put oi.dst v) K
theorem tk_cons {i:Nat} {r:List Nat} {oi:Oper} {a:Act} {K:Act→Prop} (v:Value) (hi:ops[i]?=some oi) (hw:Region.wanted oi (yielded ops a.tmps)=true) (hy: ∀w,S w→(execOp a.eval oi).run P w= .ok (.value v) w) (h:TkGo P ops S r (a.put oi.dst v) K):TkGo P ops S (i::r) a K:=⟨oi,v,hi,hw,hy,h⟩
theorem tk_nil {a:Act} {K:Act→Prop} (h:K a):TkGo P ops S [] a K:=h
def unsB (ops:Array Oper) (z:Nat):Array Bool→List Nat→Bool
 |_, []=>true
 |L,i::r=>unB ops L z i&&unsB ops z (L.setIfInBounds i true) r
def listL (L:Array Bool) (l:List Nat):Array Bool:=l.foldl (fun L i=>L.setIfInBounds i true) L
theorem un_go (hQ: ∀c a w d v,Q (.panic c) (a.put d v) w→Q (.panic c) a w) {w:World} (hS:S w): ∀(l:List Nat) (f:Nat) (L:Array Bool) (a:Act),unsB ops z L l=true→TkGo P ops S l a (fun a'=>wpUn P ops Q S z f (listL L l) a' w)→wpUn P ops Q S z (f+l.length) L a w
 | [],_,_,_,_,h=>h
 |i::r,f,L,a,hb,h=>by
  obtain⟨oi,v,hi,hw,hy,h⟩:=h
  unfold unsB at hb
  rw [Bool.and_eq_true] at hb
  exact un_take i v hi hb.1 (fun c a w=>hQ c a w _ _) hw hy hS (un_go hQ hS r f _ _ hb.2 h)
theorem un_many (l:List Nat) (f:Nat) {F:Nat} {L:Array Bool} {a:Act} {w:World} (hF:F=f+l.length) (hb:unsB ops z L l=true) (hQ: ∀c a w d v,Q (.panic c) (a.put d v) w→Q (.panic c) a w) (hS:S w) (h:TkGo P ops S l a (fun a'=>wpUn P ops Q S z f (listL L l) a' w)):wpUn P ops Q S z F L a w:=by
 subst hF
 exact un_go hQ hS l f L a hb h
theorem un_step {i:Nat} {o:Oper} {f:Nat} {L:Array Bool} {a:Act} {w:World} (hr:Region.ready .any ops L= [i]) (ho:ops[i]?=some o)
  (h: ∀K:Act→World→Prop,Shut (∀a w,(i≠z→S w)→((i≠z→S w)→wpUn P ops Q S z f (L.setIfInBounds i true) a w)→K a w)→if Region.wanted o (yielded ops a.tmps)=true then Oper.wp P o a w K Q else K (a.put o.dst undef) w):wpUn P ops Q S z (f+1) L a w:=by
 refine⟨fun h0=> (by rw [hr] at h0;cases h0),fun j hj=> ?_⟩
 rw [hr] at hj
 obtain rfl:=List.mem_singleton.1 hj
 exact wpOp_step ho fun K hK=>h K fun a w hS hW=>hK a w ⟨hS,hW hS⟩
theorem un_done {f:Nat} {L:Array Bool} {a:Act} {w:World} (hr:Region.ready .any ops L= []) (h:Q .normal a w):wpUn P ops Q S z f L a w:=by
 cases f with
 |zero=>exact⟨hr,h⟩
 |succ f=>exact⟨fun _=>h,fun i hi=>by rw [hr] at hi;cases hi⟩
theorem wp_region_un {id:Nat} {a:Act} {w:World} (S:World→Prop) (z:Nat) (hm:P.follows .mixedOrders=true) (hS:S w.drew) (h:S w.drew→wpUn P ops Q S z ops.size (Array.replicate ops.size false) a w.drew):(Code.region id ops true).wp P Q a w:=
 wp_region_any hm (any_of_un _ _ _ _ (h hS))
end Until
end Go.Proofs.YtlcidkiplidamaaGreatDoor
