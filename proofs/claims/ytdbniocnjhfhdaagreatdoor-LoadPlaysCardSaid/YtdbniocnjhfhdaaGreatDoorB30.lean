/- Part 30 of what the laws rest on: walks. Conditions: those that each theorem names. -/
import Derived.Test.YtdbniocnjhfhdaaGreatDoorB29
set_option linter.unusedSimpArgs false
set_option linter.unusedVariables false
set_option maxRecDepth 100000
set_option maxHeartbeats 4000000
namespace Go.Proofs.YtdbniocnjhfhdaaGreatDoor
open Go Go.RowKit Lib Go.Maps
theorem nqu (a:Int):mqv a 1040=(aqJ a 16&&aqJ a 1024):=by
 rw [fq6,fq6]
 unfold mqv
 show(IntKind.i64.wrap ((BitVec.ofInt 64 a&&&BitVec.ofInt 64 1040).toNat:Int)==1040)=_
 generalize BitVec.ofInt 64 a=x
 have e1:BitVec.ofInt 64 1040=BitVec.twoPow 64 4|||BitVec.twoPow 64 10:=by decide
 have e2:BitVec.ofInt 64 16=BitVec.twoPow 64 4:=by decide
 have e3:BitVec.ofInt 64 1024=BitVec.twoPow 64 10:=by decide
 rw [e1,e2,e3,BitVec.and_or_distrib_left,BitVec.and_twoPow,BitVec.and_twoPow]
 cases x.getLsbD 4<;>cases x.getLsbD 10<;>decide
theorem kqG (acc:Int) (sup:Option ByteArray):bqD acc sup=((aqJ acc 512&&(!aqJ acc 1024||aqJ acc 16)) || (aqJ acc 16&&aqJ acc 1024) || (aqJ acc 512&& !((sup.getD ⟨#[]⟩).toList==cqy))):=by
 unfold bqD
 rw [nqu]
 cases sup with
 |none=>simp [ByteArray.toList_eq,cqy]
 |some s=>simp [bne]
theorem bqJ {a b:ByteArray} (h:a.data.toList=b.data.toList):a=b:=by
 cases a;cases b;simp only [ByteArray.mk.injEq] at*;exact Array.toList_inj.1 h
def nmL (pool:List Ko) (n:Int):List UInt8:=((aqE pool n).getD ⟨#[]⟩).data.toList
def fqj (pool:List Ko) (l:List Int):List (List UInt8):=(l.map (nmL pool)).reverse
theorem hq4 {pool:List Ko} {l:List Int} {k:Nat} {s:List UInt8}:s∈fqj pool (l.take k)↔ ∃q z,q<k∧l[q]?=some z∧nmL pool z=s:=by
 unfold fqj
 rw [List.mem_reverse,List.mem_map]
 constructor
 ·rintro⟨z,hz,rfl⟩
  obtain⟨q,hq⟩:=List.mem_iff_getElem?.1 hz
  rw [List.getElem?_take] at hq
  split at hq
  ·exact⟨q,z,by omega,hq,rfl⟩
  cases hq
 rintro⟨q,z,hq,hz,rfl⟩
 exact⟨z,List.mem_iff_getElem?.2 ⟨q,by rw [List.getElem?_take,if_pos hq,hz]⟩,rfl⟩
theorem eqO (pool:List Ko) (l:List Int) (seen:List (List UInt8)) (e:Int) (h:e≠0):gqQ pool l seen e=e:=by
 cases l with
 |nil=>rfl
 |cons n r=>exact hqr pool n r seen e h
theorem lq5 (pool:List Ko) {l:List Int} {k:Nat} {n:Int} (hn:l[k]?=some n):gqQ pool (l.drop k) (fqj pool (l.take k)) 0=gqQ pool (l.drop (k+1)) (fqj pool (l.take (k+1))) (if(aqE pool n).isSome=false then 20 else if nmL pool n∈fqj pool (l.take k) then 24 else 0):=by
 have hlt:=(List.getElem?_eq_some_iff.1 hn).1
 rw [List.drop_eq_getElem_cons hlt,(List.getElem?_eq_some_iff.1 hn).2,lqc,List.take_succ_eq_append_getElem hlt,(List.getElem?_eq_some_iff.1 hn).2]
 simp [fqj,nmL]
theorem lq6 (c:aqc) (A:Option Addr) (cap:Nat) (ifs flds mths:Value) (ok:Nat→Prop) (w:World) (h:aqQ w ok c A cap ifs flds mths) (hi:bqm w ok 1 c.ifs.length (c.ifs.map (Value.int .i64)) ifs) (hn1:bqA c.this) (hn2:bqA c.sup) (hf: ∀k∈c.pool,bqA k.a) (hfi: ∀n∈c.ifs,bqA n) (hnm: ∀n,(aqt c.pool n 7).isSome=(aqE c.pool n).isSome):
  Calls Tryz.prog 86 #[bqb c (.slice A c.pool.length cap) ifs flds mths] w fun e w'=>e= .returned (.int .i64 (cqF c))∧Below w.heap.size w w':=by
 have HI:=Hq hi
 obtain⟨A2,cap2,rfl,hc2,hm2,hl2,_⟩:=hi
 obtain⟨E,hE⟩: ∃E,cqF c=E:=⟨_,rfl⟩
 obtain⟨b1,hb1⟩: ∃b,(aqt c.pool c.this 7).isSome=b:=⟨_,rfl⟩
 obtain⟨b2,hb2⟩: ∃b,(aqt c.pool c.sup 7).isSome=b:=⟨_,rfl⟩
 obtain⟨x1,hx1⟩: ∃x,(aqt c.pool c.this 7).getD aqY=x:=⟨_,rfl⟩
 obtain⟨x2,hx2⟩: ∃x,(aqt c.pool c.sup 7).getD aqY=x:=⟨_,rfl⟩
 obtain⟨sp,hsp⟩: ∃s,(aqE c.pool c.sup).getD ⟨#[]⟩=s:=⟨_,rfl⟩
 obtain⟨sb,hsb⟩: ∃s,(aqE c.pool c.sup).isSome=s:=⟨_,rfl⟩
 obtain⟨fc,h512⟩: ∃v,aqJ c.acc 512=v:=⟨_,rfl⟩
 obtain⟨ab,h1024⟩: ∃v,aqJ c.acc 1024=v:=⟨_,rfl⟩
 obtain⟨fi,h16⟩: ∃v,aqJ c.acc 16=v:=⟨_,rfl⟩
 obtain⟨q,hq⟩: ∃v,(sp.toList== [106,97,118,97,47,108,97,110,103,47,79,98,106,101,99,116])=v:=⟨_,rfl⟩
 have HE:=Hq (show E=gqQ c.pool (c.ifs.drop 0) (fqj c.pool (c.ifs.take 0)) (fqC (!b1) (!b2) ((fc&&(!ab||fi)) || (fi&&ab) || (fc&& !q))) by
  rw [←hE]
  unfold cqF
  rw [kqG,h512,h1024,h16,hsp,show(sp.toList==cqy)=q from hq]
  unfold eqW
  rw [hb1,hb2]
  rfl)
 rw [hE]
 have HB1:=Hq hb1
 have HB2:=Hq hb2
 have HX1:=Hq hx1
 have HX2:=Hq hx2
 have HSP:=Hq hsp
 have HSB:=Hq hsb
 have HH:=Hq (fun(a f:Int) W=>fqo a f W)
 have HN1:=Hq hn1
 have HN2:=Hq hn2
 have HF:=Hq hf
 have HFI:=Hq hfi
 have HNM:=Hq hnm
 have R0:=Hq (R5.start h)
 have BK0:=Hq h
 clear h hn1 hn2 hf hfi hnm hl2 hE hb1 hb2 hx1 hx2 hsp hsb
 rw [aqe]
 go_enter Tryz.func86,Tryz.ntmps86
 have c4:=R0.out.bx.cell 4 rfl
 go_wp2_with (first
  | (refine wpList_load_row rfl _ _ rfl w.heap.size rfl _ _ _ _ R0.out.bx Tryz.underlying58 rfl Kq9 ?_)
  | (go_at_call 91;refine aqa ?_))
 refine aqb ?_
 refine(fq5 R0.out HN1.out).mono ?_
 rintro e w1 ⟨rfl,hb⟩
 simp only [bqc,koV]
 rw [HX1.out,HB1.out]
 have Rw1:=Hq ((R0.out.below hb).alloc (.cells #[.int .i64 x1.tag, .string x1.text, .int .i64 x1.num, .int .i64 x1.a, .int .i64 x1.b] 78))
 clear hb
 have c5:=Rw1.out.bx.cell 5 rfl
 go_wp2_with (first
  | (refine wpList_load_row rfl _ _ rfl w.heap.size rfl _ _ _ _ Rw1.out.bx Tryz.underlying58 rfl Kq9 ?_)
  | (go_at_call 91;refine aqa ?_))
 refine aqb ?_
 refine(fq5 Rw1.out HN2.out).mono ?_
 rintro e w2 ⟨rfl,hb⟩
 simp only [bqc,koV]
 rw [HX2.out,HB2.out]
 have Rw2:=Hq ((Rw1.out.below hb).alloc (.cells #[.int .i64 x2.tag, .string x2.text, .int .i64 x2.num, .int .i64 x2.a, .int .i64 x2.b] 78))
 clear hb
 have d5:=Rw2.out.bx.cell 5 rfl
 clear c4 c5
 cases b1
 case false=>
  go_wp2_with fail
  go_ret
  exact⟨by rw [HE.out,eqO _ _ _ _ (by simp [fqC])];rfl,Rw2.out.bel⟩
 cases b2
 case false=>
  go_wp2_with fail
  go_ret
  exact⟨by rw [HE.out,eqO _ _ _ _ (by simp [fqC])];rfl,Rw2.out.bel⟩
 go_wp2_with (first
  | (refine wpList_load_row rfl _ _ rfl w.heap.size rfl _ _ _ _ Rw2.out.bx Tryz.underlying58 rfl Kq9 ?_)
  | (go_at_call 89;refine aqa ?_))
 refine aqb ?_
 refine(eq7 Rw2.out HN2.out HF.out).mono ?_
 rintro e w3 ⟨rfl,hb⟩
 simp only [cqh]
 rw [HSP.out,HSB.out]
 have Rw3:=Hq (Rw2.out.below hb)
 clear hb
 have c3:=Rw3.out.bx.cell 3 rfl
 clear d5
 obtain⟨bad,hbad⟩: ∃v,((fc&&(!ab||fi)) || (fi&&ab) || (fc&& !q))=v:=⟨_,rfl⟩
 have HBD:=Hq hbad
 rw [hbad] at HE
 clear hbad
 go_upto_region 9 with(go_at_call 112;(with_reducible refine(HH.out _ _ _).mono ?_);rintro e w1 ⟨rfl,rfl⟩)
 go_cut [76] (fun v wx=>v= .bool bad∧wx=w3)
 case first=>
  cases fc<;>cases ab<;>cases fi<;>cases q
  all_goals
   go_wp2_with fail
   go_meet
   exact⟨by rw [←HBD.out];rfl,rfl⟩
 case rest=>
 obtain⟨rfl,rfl⟩:=hcut
 cases bad
 case true=>
  go_wp2_with fail
  go_ret
  exact⟨by rw [HE.out,eqO _ _ _ _ (by simp [fqC])];rfl,Rw3.out.bel⟩
 replace HE:=Hq (HE.out.trans (show _=gqQ c.pool (c.ifs.drop 0) (fqj c.pool (c.ifs.take 0)) 0 by rfl))
 go_wp2_with fail
 clear c3
 go_loopw [12] (fun i wr=> ∃k:Nat,k≤c.ifs.length∧i= .int .i64 k∧Hid (R5 w ok c A cap (.slice A2 c.ifs.length cap2) flds mths wr)∧Hid (E=gqQ c.pool (c.ifs.drop k) (fqj c.pool (c.ifs.take k)) 0)) (fun i _=>c.ifs.length - (RowKit.intOf i).toNat)
 case atStart=>exact⟨0,by omega,rfl,Rw3,HE⟩
 case round=>
  obtain⟨k,hk,rfl,Rr,HEr⟩:=hrel
  obtain⟨c0,c1,c2,c3,c4,c5,c6,c7,c8⟩:=Rr.out.bx.nine
  by_cases hlt:k<c.ifs.length
  ·obtain⟨n,hn⟩: ∃n,c.ifs[k]?=some n:=⟨_,List.getElem?_eq_getElem hlt⟩
   have HNF:=Hq (HFI.out n (List.mem_of_getElem? hn))
   obtain⟨gi,oi,rfl,hgi,cn⟩:=cqU (HI.out.keep (aqC.of_below Rr.out.bel)) k n hn
   have HS:=Hq (lq5 c.pool hn)
   have HNR:=Hq hn
   obtain⟨x4,hx4⟩: ∃x,(aqt c.pool n 7).getD aqY=x:=⟨_,rfl⟩
   obtain⟨b4,hb4⟩: ∃b,(aqt c.pool n 7).isSome=b:=⟨_,rfl⟩
   obtain⟨s4,hs4⟩: ∃s,(aqE c.pool n).getD ⟨#[]⟩=s:=⟨_,rfl⟩
   have HX4:=Hq hx4
   have HB4:=Hq hb4
   have HS4:=Hq hs4
   have hb5:=HNM.out n
   rw [hb4] at hb5
   have HB5:=Hq hb5
   clear hn hx4 hb4 hs4 hb5
   have SK:=Hq (show∀W,R5 w ok c A cap (.slice (some ⟨gi,oi,none⟩) c.ifs.length cap2) flds mths W→(fun w'=>w'.cell? ⟨w.heap.size,0,none⟩=some (.int .i64 c.minor)∧w'.cell? ⟨w.heap.size,1,none⟩=some (.int .i64 c.major)∧w'.cell? ⟨w.heap.size,2,none⟩=some (.slice A c.pool.length cap)∧w'.cell? ⟨w.heap.size,3,none⟩=some (.int .i64 c.acc)∧w'.cell? ⟨w.heap.size,4,none⟩=some (.int .i64 c.this)∧w'.cell? ⟨w.heap.size,5,none⟩=some (.int .i64 c.sup)∧w'.cell? ⟨w.heap.size,6,none⟩=some (.slice (some ⟨gi,oi,none⟩) c.ifs.length cap2)∧w'.cell? ⟨w.heap.size,7,none⟩=some (flds)∧w'.cell? ⟨w.heap.size,8,none⟩=some (mths)∧w'.cell? ⟨gi,oi+k,none⟩=some (.int .i64 n)) W from fun W hW=>by
    obtain⟨_,_,e,_,dn⟩:=cqU (HI.out.keep (aqC.of_below hW.bel)) k n HNR.out
    cases e
    obtain⟨d0,d1,d2,d3,d4,d5,d6,d7,d8⟩:=hW.bx.nine
    exact⟨d0,d1,d2,d3,d4,d5,d6,d7,d8,dn⟩)
   have RD:=Hq (Rr.out.below ((Below.refl wr.heap.size wr).drew))
   have RA:=Hq (RD.out.alloc (.cells #[.int .i64 0, .string ⟨#[]⟩, .int .i64 0, .int .i64 0, .int .i64 0] 78))
   have BK:=Hq (show aqQ w ok c A cap (.slice (some ⟨gi,oi,none⟩) c.ifs.length cap2) flds mths from BK0.out)
   have XA:=Hq (show Bx (wr.drew.alloc (.cells #[.int .i64 0, .string ⟨#[]⟩, .int .i64 0, .int .i64 0, .int .i64 0] 78)) wr.heap.size [.int .i64 0, .string ⟨#[]⟩, .int .i64 0, .int .i64 0, .int .i64 0] 78 from aql wr.drew _ _)
   have hlr:=Rr.out.lt
   have hzr:wr.drew.heap.size=wr.heap.size:=rfl
   go_upto_region 14 with fail
   clear c0 c1 c2 c3 c4 c5 c6 c7 c8 cn
   go_cut [14] (fun v wx=>v= .bool b4∧Hid (R5 w ok c A cap (.slice (some ⟨gi,oi,none⟩) c.ifs.length cap2) flds mths wx))
   case first=>
    go_region_held2 (fun w'=>w'.cell? ⟨w.heap.size,0,none⟩=some (.int .i64 c.minor)∧w'.cell? ⟨w.heap.size,1,none⟩=some (.int .i64 c.major)∧w'.cell? ⟨w.heap.size,2,none⟩=some (.slice A c.pool.length cap)∧w'.cell? ⟨w.heap.size,3,none⟩=some (.int .i64 c.acc)∧w'.cell? ⟨w.heap.size,4,none⟩=some (.int .i64 c.this)∧w'.cell? ⟨w.heap.size,5,none⟩=some (.int .i64 c.sup)∧w'.cell? ⟨w.heap.size,6,none⟩=some (.slice (some ⟨gi,oi,none⟩) c.ifs.length cap2)∧w'.cell? ⟨w.heap.size,7,none⟩=some (flds)∧w'.cell? ⟨w.heap.size,8,none⟩=some (mths)∧w'.cell? ⟨gi,oi+k,none⟩=some (.int .i64 n)) (first|exact SK.out _ RD.out|exact SK.out _ RA.out|exact SK.out _ Q4.out|exact SK.out _ (Q4.out.alloc _) |exact SK.out _ ((((((Q4.out.set BK.out (p:=⟨wr.heap.size,0,none⟩) hlr _).set BK.out (p:=⟨wr.heap.size,1,none⟩) hlr _).set BK.out (p:=⟨wr.heap.size,2,none⟩) hlr _).set BK.out (p:=⟨wr.heap.size,3,none⟩) hlr _).set BK.out (p:=⟨wr.heap.size,4,none⟩) hlr _))) (first
     | (go_simp;go_at_call 91
        refine(fq5 (by first|exact RD.out|exact RA.out) HNF.out).mono ?_
        rintro e w4 ⟨rfl,hb⟩
        simp only [bqc,koV]
        rw [HX4.out,HB4.out]
        (first|have Q4:=Hq (RD.out.below hb) |have Q4:=Hq (RA.out.below hb))
        (first|have X4:=Hq (XA.out.below hb XA.out.lt) |have X4:=Hq (aql w4 [.int .i64 0, .string ⟨#[]⟩, .int .i64 0, .int .i64 0, .int .i64 0] 78))
        have y0:=X4.out.cell 0 rfl
        have y1:=X4.out.cell 1 rfl
        have y2:=X4.out.cell 2 rfl
        have y3:=X4.out.cell 3 rfl
        have y4:=X4.out.cell 4 rfl
        have z0:=X4.out.frozen 0
        have z1:=X4.out.frozen 1
        have z2:=X4.out.frozen 2
        have z3:=X4.out.frozen 3
        have z4:=X4.out.frozen 4
        clear hb))
    all_goals
     go_wp2_with fail
     go_meet
     first|exact⟨rfl,Hq (Q4.out.alloc _)⟩ |exact⟨rfl,Hq ((((((Q4.out.set BK.out (p:=⟨wr.heap.size,0,none⟩) hlr _).set BK.out (p:=⟨wr.heap.size,1,none⟩) hlr _).set BK.out (p:=⟨wr.heap.size,2,none⟩) hlr _).set BK.out (p:=⟨wr.heap.size,3,none⟩) hlr _).set BK.out (p:=⟨wr.heap.size,4,none⟩) hlr _))⟩
   case rest=>
   obtain⟨rfl,Rw4⟩:=hcut
   cases b4
   ·go_wp2_with fail
    go_ret
    exact⟨by rw [HEr.out,HS.out, ←HB5.out,if_pos rfl,eqO _ _ _ _ Dd9];rfl,Rw4.out.bel⟩
   have RD:=Hq (Rw4.out.below ((Below.refl wc.heap.size wc).drew))
   go_wp2_with fail
   go_region_held2 (fun w'=>w'.cell? ⟨w.heap.size,0,none⟩=some (.int .i64 c.minor)∧w'.cell? ⟨w.heap.size,1,none⟩=some (.int .i64 c.major)∧w'.cell? ⟨w.heap.size,2,none⟩=some (.slice A c.pool.length cap)∧w'.cell? ⟨w.heap.size,3,none⟩=some (.int .i64 c.acc)∧w'.cell? ⟨w.heap.size,4,none⟩=some (.int .i64 c.this)∧w'.cell? ⟨w.heap.size,5,none⟩=some (.int .i64 c.sup)∧w'.cell? ⟨w.heap.size,6,none⟩=some (.slice (some ⟨gi,oi,none⟩) c.ifs.length cap2)∧w'.cell? ⟨w.heap.size,7,none⟩=some (flds)∧w'.cell? ⟨w.heap.size,8,none⟩=some (mths)∧w'.cell? ⟨gi,oi+k,none⟩=some (.int .i64 n)) (first|exact SK.out _ RD.out|exact SK.out _ Rw5.out) (first
    | (go_simp;go_at_call 89
       refine(eq7 RD.out HNF.out HF.out).mono ?_
       rintro e w5 ⟨rfl,hb⟩
       simp only [cqh]
       rw [HS4.out, ←HB5.out]
       have Rw5:=Hq (RD.out.below hb)
       clear hb))
   go_wp2_with fail
   go_loopw [17] (fun j wz=> ∃m:Nat,m≤k∧j= .int .i64 m∧Hid (R5 w ok c A cap (.slice (some ⟨gi,oi,none⟩) c.ifs.length cap2) flds mths wz)∧Hid (∀q z,q<m→c.ifs[q]?=some z→nmL c.pool z≠s4.data.toList)) (fun j _=>k - (RowKit.intOf j).toNat)
   case atStart=>exact⟨0,by omega,rfl,Rw5,Hq (fun q z h=>by omega)⟩
   case round=>
    obtain⟨m,hm,rfl,Rz,HZ⟩:=hrel
    by_cases hmk:m<k
    ·obtain⟨z,hz⟩: ∃z,c.ifs[m]?=some z:=⟨_,List.getElem?_eq_getElem Om⟩
     have HZF:=Hq (HFI.out z (List.mem_of_getElem? hz))
     obtain⟨s6,hs6⟩: ∃s,(aqE c.pool z).getD ⟨#[]⟩=s:=⟨_,rfl⟩
     obtain⟨b6,hb6⟩: ∃s,(aqE c.pool z).isSome=s:=⟨_,rfl⟩
     have HZR:=Hq hz
     have HS6:=Hq hs6
     have HB6:=Hq hb6
     have hm1:m<c.ifs.length:=by omega
     clear hz hs6 hb6
     have SZ:=Hq (show∀W,R5 w ok c A cap (.slice (some ⟨gi,oi,none⟩) c.ifs.length cap2) flds mths W→(fun w'=>w'.cell? ⟨w.heap.size,0,none⟩=some (.int .i64 c.minor)∧w'.cell? ⟨w.heap.size,1,none⟩=some (.int .i64 c.major)∧w'.cell? ⟨w.heap.size,2,none⟩=some (.slice A c.pool.length cap)∧w'.cell? ⟨w.heap.size,3,none⟩=some (.int .i64 c.acc)∧w'.cell? ⟨w.heap.size,4,none⟩=some (.int .i64 c.this)∧w'.cell? ⟨w.heap.size,5,none⟩=some (.int .i64 c.sup)∧w'.cell? ⟨w.heap.size,6,none⟩=some (.slice (some ⟨gi,oi,none⟩) c.ifs.length cap2)∧w'.cell? ⟨w.heap.size,7,none⟩=some (flds)∧w'.cell? ⟨w.heap.size,8,none⟩=some (mths)∧w'.cell? ⟨gi,oi+m,none⟩=some (.int .i64 z)) W from fun W hW=>by
      obtain⟨_,_,e,_,dn⟩:=cqU (HI.out.keep (aqC.of_below hW.bel)) m z HZR.out
      cases e
      obtain⟨d0,d1,d2,d3,d4,d5,d6,d7,d8⟩:=hW.bx.nine
      exact⟨d0,d1,d2,d3,d4,d5,d6,d7,d8,dn⟩)
     have RD:=Hq (Rz.out.below ((Below.refl wr.heap.size wr).drew))
     go_wp2_with fail
     go_region_held2 (fun w'=>w'.cell? ⟨w.heap.size,0,none⟩=some (.int .i64 c.minor)∧w'.cell? ⟨w.heap.size,1,none⟩=some (.int .i64 c.major)∧w'.cell? ⟨w.heap.size,2,none⟩=some (.slice A c.pool.length cap)∧w'.cell? ⟨w.heap.size,3,none⟩=some (.int .i64 c.acc)∧w'.cell? ⟨w.heap.size,4,none⟩=some (.int .i64 c.this)∧w'.cell? ⟨w.heap.size,5,none⟩=some (.int .i64 c.sup)∧w'.cell? ⟨w.heap.size,6,none⟩=some (.slice (some ⟨gi,oi,none⟩) c.ifs.length cap2)∧w'.cell? ⟨w.heap.size,7,none⟩=some (flds)∧w'.cell? ⟨w.heap.size,8,none⟩=some (mths)∧w'.cell? ⟨gi,oi+m,none⟩=some (.int .i64 z)) (first|exact SZ.out _ RD.out|exact SZ.out _ Rw6.out) (first
      | (go_simp;go_at_call 89
         refine(eq7 RD.out HZF.out HF.out).mono ?_
         rintro e w6 ⟨rfl,hb⟩
         simp only [cqh]
         rw [HS6.out,HB6.out]
         have Rw6:=Hq (RD.out.below hb)
         clear hb))
     by_cases heq:s6=s4
     ·have hq:(s6.toList==s4.toList)=true:=by rw [heq];exact beq_self_eq_true _
      have HM:=Hq (show nmL c.pool n∈fqj c.pool (c.ifs.take k) from hq4.2 ⟨m,z,hmk,HZR.out,by unfold nmL;rw [HS6.out,HS4.out,heq]⟩)
      clear heq
      go_wp2_with fail
      go_ret
      exact⟨by rw [HEr.out,HS.out, ←HB5.out,if_neg Sp,if_pos HM.out,eqO _ _ _ _ Dd9];rfl,Rw6.out.bel⟩
     have hq:(s6.toList==s4.toList)=false:=beq_eq_false_iff_ne.2 fun h=>heq (bqJ (by rw [←ByteArray.toList_eq, ←ByteArray.toList_eq];exact h))
     have HZ2:=Hq (show∀q z,q<m+1→c.ifs[q]?=some z→nmL c.pool z≠s4.data.toList from fun q z' h1 h2=>by
      rcases Nat.lt_or_ge q m with h3|h3
      ·exact HZ.out q z' h3 h2
      obtain rfl:q=m:=by omega
      rw [HZR.out] at h2
      cases h2
      unfold nmL
      rw [HS6.out]
      intro h4
      exact heq (bqJ h4))
     clear heq
     go_wp2_with fail
     go_roundw
     case rel=>exact⟨m+1,by omega,by go_num,Rw6,HZ2⟩
     case measure=>simp [RowKit.intOf];omega
    obtain rfl:m=k:=by omega
    have HM:=Hq (show nmL c.pool n∉fqj c.pool (c.ifs.take m) from fun hm=>by
     obtain⟨q,z,h1,h2,h3⟩:=hq4.1 hm
     refine HZ.out q z h1 h2 ?_
     rw [h3]
     unfold nmL
     rw [HS4.out])
    have HE2:=Hq (show E=gqQ c.pool (c.ifs.drop (m+1)) (fqj c.pool (c.ifs.take (m+1))) 0 by rw [HEr.out,HS.out, ←HB5.out,if_neg Sp,if_neg HM.out])
    go_wp2_with fail
    go_roundw
    case rel=>exact⟨m+1,by omega,by go_num,Rz,HE2⟩
    case measure=>simp [RowKit.intOf];omega
  have HZE:=Hq (show E=0 by rw [HEr.out,List.drop_of_length_le Om];rfl)
  go_wp2_with fail
  go_ret
  exact⟨by rw [HZE.out];rfl,Rr.out.bel⟩
def dqn {α β:Type} (f:α→β) (l:List α):List β:=(l.map f).reverse
theorem eqP {α β:Type} {f:α→β} {l:List α} {k:Nat} {s:β}:s∈dqn f (l.take k)↔ ∃q z,q<k∧l[q]?=some z∧f z=s:=by
 unfold dqn
 rw [List.mem_reverse,List.mem_map]
 constructor
 ·rintro⟨z,hz,rfl⟩
  obtain⟨q,hq⟩:=List.mem_iff_getElem?.1 hz
  rw [List.getElem?_take] at hq
  split at hq
  ·exact⟨q,z,by omega,hq,rfl⟩
  cases hq
 rintro⟨q,z,hq,hz,rfl⟩
 exact⟨z,List.mem_iff_getElem?.2 ⟨q,by rw [List.getElem?_take,if_pos hq,hz]⟩,rfl⟩
theorem nqv (c:aqc) (A:Option Addr) (cap:Nat) (ifs flds mths:Value) (ok:Nat→Prop) (i:Nat) (x:aqq) (w:World) (h:aqQ w ok c A cap ifs flds mths) (hl:bqm w ok 4 c.flds.length (c.flds.flatMap aqq.cells) flds) (hx:c.flds[i]?=some x) (hff: ∀x∈c.flds,fqX x) (ht: ∀k∈c.pool,k.text.size≤65536):
  Calls Tryz.prog 87 #[bqb c (.slice A c.pool.length cap) ifs flds mths, .int .i64 i] w fun e w'=>e= .returned (.int .i64 (dqk c.pool c.acc (dqn (fun x:aqq=>cqX c.pool x.name x.desc) (c.flds.take i)) x))∧Below w.heap.size w w':=by
 obtain⟨A3,k3,rfl,h31,h32⟩:=aqd hl
 have HL:=Hq hl
 obtain⟨bf,off,rfl,hbf,p0,p1,p2,p3⟩:=cqv hl i x hx
 have hil:=(List.getElem?_eq_some_iff.1 hx).1
 obtain⟨x1,x2,x3,x4,x5,x6,x7,x8,x9,x10,x11,x12⟩:=far bf w.heap.size hbf
 have HFF:=Hq hff
 have HXF:=Hq (hff x (List.mem_of_getElem? hx))
 obtain⟨E,hE⟩: ∃E,dqk c.pool c.acc (dqn (fun x:aqq=>cqX c.pool x.name x.desc) (c.flds.take i)) x=E:=⟨_,rfl⟩
 rw [hE]
 obtain⟨sn,hsn⟩: ∃s,(aqf c.pool x.name).getD ⟨#[]⟩=s:=⟨_,rfl⟩
 obtain⟨a1,ha1⟩: ∃s,(aqf c.pool x.name).isSome=s:=⟨_,rfl⟩
 obtain⟨sd,hsd⟩: ∃s,(aqf c.pool x.desc).getD ⟨#[]⟩=s:=⟨_,rfl⟩
 obtain⟨a2,ha2⟩: ∃s,(aqf c.pool x.desc).isSome=s:=⟨_,rfl⟩
 have tsz: ∀n,((aqf c.pool n).getD ⟨#[]⟩).size≤65536:=fun n=>by
  cases hq:aqf c.pool n with
  |none=>exact Nat.zero_le _
  |some s=>exact cqe hq ht
 have hz1:sn.size≤1000000:=by have:=tsz x.name;rw [hsn] at this;omega
 have hz2:sd.size≤1000000:=by have:=tsz x.desc;rw [hsd] at this;omega
 obtain⟨sb,hsb⟩: ∃v,decide ((sn.data.toList,sd.data.toList)∈dqn (fun x:aqq=>cqX c.pool x.name x.desc) (c.flds.take i))=v:=⟨_,rfl⟩
 obtain⟨g1,hg1⟩: ∃v,bqh sn.data.toList=v:=⟨_,rfl⟩
 obtain⟨g2,hg2⟩: ∃v,aqD sd.data.toList=v:=⟨_,rfl⟩
 obtain⟨n,hn⟩: ∃n,dqI x.acc=n:=⟨_,rfl⟩
 obtain⟨v,hv⟩: ∃v,decide ((n:Int) >1)=v:=⟨_,rfl⟩
 obtain⟨fc,h512⟩: ∃v,aqJ c.acc 512=v:=⟨_,rfl⟩
 obtain⟨b25,h25⟩: ∃v,(bits .and .i64 x.acc 25 !=25)=v:=⟨_,rfl⟩
 obtain⟨b8,h8⟩: ∃v,(bits .and .i64 x.acc 8==0)=v:=⟨_,rfl⟩
 obtain⟨z0,hz0⟩: ∃v,(x.value !=0)=v:=⟨_,rfl⟩
 obtain⟨bI,hbI⟩: ∃v,(sd.toList== [73])=v:=⟨_,rfl⟩
 obtain⟨k5,hk5⟩: ∃k,(aqt c.pool x.value 3).getD aqY=k:=⟨_,rfl⟩
 obtain⟨d5,hd5⟩: ∃k,(aqt c.pool x.value 3).isSome=k:=⟨_,rfl⟩
 have HE:=Hq (show E=if(!a1|| !a2)=true then 20 else if(!g1)=true then 21 else if(!g2)=true then 22 else if(v|| (fc&&b25))=true then 23 else if sb=true then 24 else if(z0&&(b8|| !bI|| !d5))=true then 26 else 0 by
  have hv1:decide (1<n)=v:=by rw [←hv];congr 1;simp;omega
  have e0:cqX c.pool x.name x.desc=(sn.data.toList,sd.data.toList):=by unfold cqX;rw [hsn,hsd]
  rw [←hE]
  unfold dqk hqN bq3 cqt
  rw [e0]
  dsimp only
  rw [ha1,ha2,hg1,hg2,hn,hv1,h512,show(!mqv x.acc 25)=b25 from h25,hsb,show aqJ x.acc 8= !b8 by rw [←h8];rfl,show(sd.data.toList== [73])=bI by rw [←hbI,ByteArray.toList_eq],hd5,hz0,Bool.not_not])
 have HSN:=Hq hsn
 have HA1:=Hq ha1
 have HSD:=Hq hsd
 have HA2:=Hq ha2
 have HSB:=Hq hsb
 have HK5:=Hq hk5
 have HD5:=Hq hd5
 have HH:=Hq (fun(a f:Int) W=>fqo a f W)
 have HV:=Hq (fun W=>gqH x.acc W)
 rw [hn] at HV
 have HC1:=Hq (fun W=>eqv sn W hz1)
 rw [hg1] at HC1
 have HC2:=Hq (fun W=>dqm sd W hz2)
 rw [hg2] at HC2
 have R1:=Hq ((R5.start h).alloc (.cells #[.int .i64 x.acc, .int .i64 x.name, .int .i64 x.desc, .int .i64 x.value] 119))
 have F1:=Hq (aqh (w.alloc (.cells #[.int .i64 c.minor, .int .i64 c.major, .slice A c.pool.length cap, .int .i64 c.acc, .int .i64 c.this, .int .i64 c.sup,ifs, .slice (some ⟨bf,off,none⟩) c.flds.length k3,mths] 58)) [.int .i64 x.acc, .int .i64 x.name, .int .i64 x.desc, .int .i64 x.value] 119 (w.heap.size+1) Sp)
 clear h hl hx hff ht hE tsz hsn hsd ha1 ha2 hsb hk5 hd5 hg1 hg2 hn
 rw [aqe]
 go_enter Tryz.func87,Tryz.ntmps87
 have f1:=F1.out.cell 1 rfl
 go_wp2_with (first
  | (refine wpList_load_row rfl _ _ rfl w.heap.size rfl _ _ _ _ R1.out.bx Tryz.underlying58 rfl Kq9 ?_)
  | (go_at_call 90;refine aqa ?_))
 refine aqb ?_
 refine(cqV R1.out HXF.out.1).mono ?_
 rintro e w2 ⟨rfl,hb⟩
 simp only [cqh]
 rw [HSN.out,HA1.out]
 have Rw2:=Hq (R1.out.below hb)
 have Fw2:=Hq (F1.out.below hb F1.out.lt)
 clear hb f1
 have f2:=Fw2.out.cell 2 rfl
 go_wp2_with (first
  | (refine wpList_load_row rfl _ _ rfl w.heap.size rfl _ _ _ _ Rw2.out.bx Tryz.underlying58 rfl Kq9 ?_)
  | (go_at_call 90;refine aqa ?_))
 refine aqb ?_
 refine(cqV Rw2.out HXF.out.2.1).mono ?_
 rintro e w3 ⟨rfl,hb⟩
 simp only [cqh]
 rw [HSD.out,HA2.out]
 have Rw3:=Hq (Rw2.out.below hb)
 have Fw3:=Hq (Fw2.out.below hb Fw2.out.lt)
 clear hb f2
 cases a1
 case false=>
  go_wp2_with fail
  go_ret
  exact⟨by rw [HE.out];rfl,Rw3.out.bel⟩
 cases a2
 case false=>
  go_wp2_with fail
  go_ret
  exact⟨by rw [HE.out];rfl,Rw3.out.bel⟩
 go_wp2_with (first
  | (refine wpList_load_row rfl _ _ rfl w.heap.size rfl _ _ _ _ Rw3.out.bx Tryz.underlying58 rfl Kq9 ?_)
  | (go_at_call 111;refine aqa ?_))
 refine aqb ?_
 refine(HC1.out _).mono ?_
 rintro e w4 ⟨rfl,hb⟩
 have Rw4:=Hq (Rw3.out.below hb)
 have Fw4:=Hq (Fw3.out.below hb Fw3.out.lt)
 clear hb
 cases g1
 case false=>
  go_wp2_with fail
  go_ret
  exact⟨by rw [HE.out];rfl,Rw4.out.bel⟩
 go_wp2_with (first
  | (refine wpList_load_row rfl _ _ rfl w.heap.size rfl _ _ _ _ Rw4.out.bx Tryz.underlying58 rfl Kq9 ?_)
  | (go_at_call 108;refine aqa ?_))
 refine aqb ?_
 refine(HC2.out _).mono ?_
 rintro e w5 ⟨rfl,hb⟩
 have Rw5:=Hq (Rw4.out.below hb)
 have Fw5:=Hq (Fw4.out.below hb Fw4.out.lt)
 clear hb
 cases g2
 case false=>
  go_wp2_with fail
  go_ret
  exact⟨by rw [HE.out];rfl,Rw5.out.bel⟩
 have c3:=Rw5.out.bx.cell 3 rfl
 have f0:=Fw5.out.cell 0 rfl
 obtain⟨bad,hbad⟩: ∃u,(v|| (fc&&b25))=u:=⟨_,rfl⟩
 have HBD:=Hq hbad
 rw [hbad] at HE
 clear hbad
 go_upto_region 13 with(first
  | (go_at_call 112;(with_reducible refine(HH.out _ _ _).mono ?_);rintro e w1 ⟨rfl,rfl⟩)
  | (go_at_call 113;(with_reducible refine(HV.out _).mono ?_);rintro e w1 ⟨rfl,rfl⟩))
 go_cut [67] (fun u wx=>u= .bool bad∧wx=w5)
 case first=>
  cases v<;>cases fc<;>cases b25
  all_goals
   go_wp2_with (first
  | (go_at_call 112;(with_reducible refine(HH.out _ _ _).mono ?_);rintro e w1 ⟨rfl,rfl⟩)
  | (go_at_call 113;(with_reducible refine(HV.out _).mono ?_);rintro e w1 ⟨rfl,rfl⟩))
   go_meet
   exact⟨by rw [←HBD.out];rfl,rfl⟩
 case rest=>
 obtain⟨rfl,rfl⟩:=hcut
 cases bad
 case true=>
  go_wp2_with fail
  go_ret
  exact⟨by rw [HE.out];rfl,Rw5.out.bel⟩
 replace HE:=Hq (HE.out.trans (show _=if sb=true then 24 else if(z0&&(b8|| !bI|| !d5))=true then 26 else 0 from rfl))
 go_wp2_with fail
 go_loopw [12] (fun j wr=> ∃m:Nat,m≤i∧j= .int .i64 m∧Hid (R5 w ok c A cap ifs (.slice (some ⟨bf,off,none⟩) c.flds.length k3) mths wr)∧Hid (Bx wr (w.heap.size+1) [.int .i64 x.acc, .int .i64 x.name, .int .i64 x.desc, .int .i64 x.value] 119)∧Hid (∀q z,q<m→c.flds[q]?=some z→cqX c.pool z.name z.desc≠(sn.data.toList,sd.data.toList))) (fun j _=>i - (RowKit.intOf j).toNat)
 case atStart=>exact⟨0,by omega,rfl,Rw5,Fw5,Hq (fun q z h=>by omega)⟩
 case round=>
  obtain⟨m,hm,rfl,Rr,Fr,HZ⟩:=hrel
  by_cases hmi:m<i
  ·obtain⟨z,hz⟩: ∃z,c.flds[m]?=some z:=⟨_,List.getElem?_eq_getElem Om⟩
   have HZR:=Hq hz
   have HZF:=Hq (HFF.out z (List.mem_of_getElem? hz))
   have hml:m<c.flds.length:=by omega
   obtain⟨s6,hs6⟩: ∃s,(aqf c.pool z.name).getD ⟨#[]⟩=s:=⟨_,rfl⟩
   obtain⟨b6,hb6⟩: ∃s,(aqf c.pool z.name).isSome=s:=⟨_,rfl⟩
   obtain⟨s7,hs7⟩: ∃s,(aqf c.pool z.desc).getD ⟨#[]⟩=s:=⟨_,rfl⟩
   obtain⟨b7,hb7⟩: ∃s,(aqf c.pool z.desc).isSome=s:=⟨_,rfl⟩
   have HS6:=Hq hs6
   have HB6:=Hq hb6
   have HS7:=Hq hs7
   have HB7:=Hq hb7
   clear hz hs6 hb6 hs7 hb7
   have SK:=Hq (show∀W,R5 w ok c A cap ifs (.slice (some ⟨bf,off,none⟩) c.flds.length k3) mths W→(fun w'=>w'.cell? ⟨w.heap.size,0,none⟩=some (.int .i64 c.minor)∧w'.cell? ⟨w.heap.size,1,none⟩=some (.int .i64 c.major)∧w'.cell? ⟨w.heap.size,2,none⟩=some (.slice A c.pool.length cap)∧w'.cell? ⟨w.heap.size,3,none⟩=some (.int .i64 c.acc)∧w'.cell? ⟨w.heap.size,4,none⟩=some (.int .i64 c.this)∧w'.cell? ⟨w.heap.size,5,none⟩=some (.int .i64 c.sup)∧w'.cell? ⟨w.heap.size,6,none⟩=some (ifs)∧w'.cell? ⟨w.heap.size,7,none⟩=some (.slice (some ⟨bf,off,none⟩) c.flds.length k3)∧w'.cell? ⟨w.heap.size,8,none⟩=some (mths)∧w'.cell? ⟨bf,off+m*4+1,none⟩=some (.int .i64 z.name)) W from fun W hW=>by
    obtain⟨_,_,e,_,q0,q1,q2,q3⟩:=cqv (HL.out.keep (aqC.of_below hW.bel)) m z HZR.out
    cases e
    obtain⟨d0,d1,d2,d3,d4,d5,d6,d7,d8⟩:=hW.bx.nine
    exact⟨d0,d1,d2,d3,d4,d5,d6,d7,d8,q1⟩)
   have RD:=Hq (Rr.out.below ((Below.refl wr.heap.size wr).drew))
   go_wp2_with fail
   go_region_held2 (fun w'=>w'.cell? ⟨w.heap.size,0,none⟩=some (.int .i64 c.minor)∧w'.cell? ⟨w.heap.size,1,none⟩=some (.int .i64 c.major)∧w'.cell? ⟨w.heap.size,2,none⟩=some (.slice A c.pool.length cap)∧w'.cell? ⟨w.heap.size,3,none⟩=some (.int .i64 c.acc)∧w'.cell? ⟨w.heap.size,4,none⟩=some (.int .i64 c.this)∧w'.cell? ⟨w.heap.size,5,none⟩=some (.int .i64 c.sup)∧w'.cell? ⟨w.heap.size,6,none⟩=some (ifs)∧w'.cell? ⟨w.heap.size,7,none⟩=some (.slice (some ⟨bf,off,none⟩) c.flds.length k3)∧w'.cell? ⟨w.heap.size,8,none⟩=some (mths)∧w'.cell? ⟨bf,off+m*4+1,none⟩=some (.int .i64 z.name)) (first|exact SK.out _ RD.out|exact SK.out _ Rw7.out) (first
    | (go_simp;go_at_call 90
       refine(cqV RD.out HZF.out.1).mono ?_
       rintro e w7 ⟨rfl,hb⟩
       simp only [cqh]
       rw [HS6.out,HB6.out]
       have Rw7:=Hq (RD.out.below hb)
       have Fw7:=Hq (((Fr.out.below ((Below.refl wr.heap.size wr).drew) Fr.out.lt)).below hb Fr.out.lt)
       clear hb))
   have SZ:=Hq (show∀W,R5 w ok c A cap ifs (.slice (some ⟨bf,off,none⟩) c.flds.length k3) mths W→(fun w'=>w'.cell? ⟨w.heap.size,0,none⟩=some (.int .i64 c.minor)∧w'.cell? ⟨w.heap.size,1,none⟩=some (.int .i64 c.major)∧w'.cell? ⟨w.heap.size,2,none⟩=some (.slice A c.pool.length cap)∧w'.cell? ⟨w.heap.size,3,none⟩=some (.int .i64 c.acc)∧w'.cell? ⟨w.heap.size,4,none⟩=some (.int .i64 c.this)∧w'.cell? ⟨w.heap.size,5,none⟩=some (.int .i64 c.sup)∧w'.cell? ⟨w.heap.size,6,none⟩=some (ifs)∧w'.cell? ⟨w.heap.size,7,none⟩=some (.slice (some ⟨bf,off,none⟩) c.flds.length k3)∧w'.cell? ⟨w.heap.size,8,none⟩=some (mths)∧w'.cell? ⟨bf,off+m*4+2,none⟩=some (.int .i64 z.desc)) W from fun W hW=>by
    obtain⟨_,_,e,_,q0,q1,q2,q3⟩:=cqv (HL.out.keep (aqC.of_below hW.bel)) m z HZR.out
    cases e
    obtain⟨d0,d1,d2,d3,d4,d5,d6,d7,d8⟩:=hW.bx.nine
    exact⟨d0,d1,d2,d3,d4,d5,d6,d7,d8,q2⟩)
   have RD:=Hq (Rw7.out.below ((Below.refl w7.heap.size w7).drew))
   go_wp2_with fail
   go_region_held2 (fun w'=>w'.cell? ⟨w.heap.size,0,none⟩=some (.int .i64 c.minor)∧w'.cell? ⟨w.heap.size,1,none⟩=some (.int .i64 c.major)∧w'.cell? ⟨w.heap.size,2,none⟩=some (.slice A c.pool.length cap)∧w'.cell? ⟨w.heap.size,3,none⟩=some (.int .i64 c.acc)∧w'.cell? ⟨w.heap.size,4,none⟩=some (.int .i64 c.this)∧w'.cell? ⟨w.heap.size,5,none⟩=some (.int .i64 c.sup)∧w'.cell? ⟨w.heap.size,6,none⟩=some (ifs)∧w'.cell? ⟨w.heap.size,7,none⟩=some (.slice (some ⟨bf,off,none⟩) c.flds.length k3)∧w'.cell? ⟨w.heap.size,8,none⟩=some (mths)∧w'.cell? ⟨bf,off+m*4+2,none⟩=some (.int .i64 z.desc)) (first|exact SZ.out _ RD.out|exact SZ.out _ Rw8.out) (first
    | (go_simp;go_at_call 90
       refine(cqV RD.out HZF.out.2.1).mono ?_
       rintro e w8 ⟨rfl,hb⟩
       simp only [cqh]
       rw [HS7.out,HB7.out]
       have Rw8:=Hq (RD.out.below hb)
       have Fw8:=Hq (((Fw7.out.below ((Below.refl w7.heap.size w7).drew) Fw7.out.lt)).below hb Fw7.out.lt)
       clear hb))
   have hne: ∀(_: ¬(s6=sn∧s7=sd)), ∀q z,q<m+1→c.flds[q]?=some z→cqX c.pool z.name z.desc≠(sn.data.toList,sd.data.toList):=fun hn q z' h1 h2=>by
    rcases Nat.lt_or_ge q m with h3|h3
    ·exact HZ.out q z' h3 h2
    obtain rfl:q=m:=by omega
    rw [HZR.out] at h2
    cases h2
    unfold cqX
    rw [HS6.out,HS7.out]
    intro h4
    injection h4 with h5 h6
    exact hn ⟨bqJ h5,bqJ h6⟩
   by_cases he1:s6=sn
   case neg=>
    have hq1:(s6.toList==sn.toList)=false:=beq_eq_false_iff_ne.2 fun h=>he1 (bqJ (by rw [←ByteArray.toList_eq, ←ByteArray.toList_eq];exact h))
    have HZ2:=Hq (hne fun h=>he1 h.1)
    clear he1 hne
    go_wp2_with fail
    go_roundw
    case rel=>exact⟨m+1,by omega,by go_num,Rw8,Fw8,HZ2⟩
    case measure=>simp [RowKit.intOf];omega
   have hq1:(s6.toList==sn.toList)=true:=by rw [he1];exact beq_self_eq_true _
   by_cases he2:s7=sd
   case neg=>
    have hq2:(s7.toList==sd.toList)=false:=beq_eq_false_iff_ne.2 fun h=>he2 (bqJ (by rw [←ByteArray.toList_eq, ←ByteArray.toList_eq];exact h))
    have HZ2:=Hq (hne fun h=>he2 h.2)
    clear he1 he2 hne
    go_wp2_with fail
    go_roundw
    case rel=>exact⟨m+1,by omega,by go_num,Rw8,Fw8,HZ2⟩
    case measure=>simp [RowKit.intOf];omega
   have hq2:(s7.toList==sd.toList)=true:=by rw [he2];exact beq_self_eq_true _
   have HM:=Hq (show sb=true by rw [←HSB.out,decide_eq_true_eq];exact eqP.2 ⟨m,z,hmi,HZR.out,by show cqX _ _ _=_;unfold cqX;rw [HS6.out,HS7.out,he1,he2]⟩)
   clear he1 he2 hne
   go_wp2_with fail
   go_ret
   exact⟨by rw [HE.out,if_pos HM.out];rfl,Rw8.out.bel⟩
  obtain rfl:m=i:=by omega
  have HM:=Hq (show sb=false by
   rw [←HSB.out,decide_eq_false_iff_not]
   intro hm
   obtain⟨q,z,h1,h2,h3⟩:=eqP.1 hm
   exact HZ.out q z h1 h2 h3)
  replace HE:=Hq (HE.out.trans (show _=if(z0&&(b8|| !bI|| !d5))=true then 26 else 0 by rw [HM.out];rfl))
  have f3:=Fr.out.cell 3 rfl
  cases z0
  case false=>
   go_wp2_with fail
   go_ret
   exact⟨by rw [HE.out];rfl,Rr.out.bel⟩
  go_wp2_with (first
   | (refine wpList_load_row rfl _ _ rfl w.heap.size rfl _ _ _ _ Rr.out.bx Tryz.underlying58 rfl Kq9 ?_)
   | (go_at_call 91;refine aqa ?_))
  refine aqb ?_
  refine(cq3 c A cap ifs (.slice (some ⟨bf,off,none⟩) c.flds.length k3) mths x.value 3 ok _ Rr.out.bk.hp Rr.out.bk.h1 Rr.out.bk.h2 Rr.out.bk.h3 HXF.out.2.2.2 HXF.out.2.2.1).mono ?_
  rintro e w9 ⟨rfl,hb⟩
  simp only [bqc,koV]
  rw [HK5.out,HD5.out]
  have hb9:=(hb.alloc hb.size (.cells #[.int .i64 k5.tag, .string k5.text, .int .i64 k5.num, .int .i64 k5.a, .int .i64 k5.b] 78))
  have R9:=Hq (Rr.out.below hb9)
  have f0:=(Fr.out.below hb9 Fr.out.lt).cell 0 rfl
  clear hb hb9 f3
  cases d5
  case false=>
   go_wp2_with fail
   go_ret
   exact⟨by rw [HE.out];cases b8<;>cases bI<;>rfl,R9.out.bel⟩
  cases b8
  case true=>
   go_wp2_with fail
   go_ret
   exact⟨by rw [HE.out];rfl,R9.out.bel⟩
  cases bI
  all_goals
   go_wp2_with fail
   go_ret
   exact⟨by rw [HE.out];rfl,R9.out.bel⟩
def jqa (pool:List Ko) (x:aqr) (na:Nat):Int:=if cq7 x na=true then 25 else if dq3 pool x=true then 20 else 0
theorem jqR {α:Type} {l:List α} {k:Nat} {t:α} (h:l[k]?=some t) (p:α→Bool):(l.drop k).any p=(p t|| (l.drop (k+1)).any p):=by
 rw [List.drop_eq_getElem_cons (List.getElem?_eq_some_iff.1 h).1,(List.getElem?_eq_some_iff.1 h).2,List.any_cons]
theorem lq7 (c:aqc) (A:Option Addr) (cap:Nat) (ifs flds mths:Value) (ok ok2:Nat→Prop) (x:aqr) (cv tv:Value) (na:Nat) (w:World) (h:aqQ w ok c A cap ifs flds mths) (hM:aqO w ok2 x cv tv) (hf: ∀t∈x.traps,bqA t.kind) (hs:na≤65536):
  Calls Tryz.prog 115 #[bqb c (.slice A c.pool.length cap) ifs flds mths,bqL x cv tv, .int .i64 na] w fun e w'=>e= .returned (.int .i64 (jqa c.pool x na))∧Below w.heap.size w w':=by
 obtain⟨Ac,kc,rfl,_,zc⟩:=aqd hM.hcode
 obtain⟨At,kt,rfl,_,zt⟩:=aqd hM.htraps
 obtain⟨acc,nm,ds,has,stack,locals,code,traps⟩:=x
 have HT:=Hq hM.htraps
 simp only at HT zc zt
 obtain⟨E,hE⟩: ∃E,jqa c.pool ⟨acc,nm,ds,has,stack,locals,code,traps⟩ na=E:=⟨_,rfl⟩
 rw [hE]
 obtain⟨ab,h1024⟩: ∃v,aqJ acc 1024=v:=⟨_,rfl⟩
 obtain⟨st,h8⟩: ∃v,(bits .and .i64 acc 8==0)=v:=⟨_,rfl⟩
 obtain⟨b1,hb1⟩: ∃v,((code.length:Int)==0)=v:=⟨_,rfl⟩
 obtain⟨b2,hb2⟩: ∃v,decide (stack<0)=v:=⟨_,rfl⟩
 obtain⟨b3,hb3⟩: ∃v,decide (64<stack)=v:=⟨_,rfl⟩
 obtain⟨b4,hb4⟩: ∃v,decide (locals<0)=v:=⟨_,rfl⟩
 obtain⟨b5,hb5⟩: ∃v,decide (64<locals)=v:=⟨_,rfl⟩
 obtain⟨b6,hb6⟩: ∃v,decide (locals<if st=true then(na:Int)+1 else(na:Int))=v:=⟨_,rfl⟩
 have HE:=Hq (show E=if has=ab then 25 else if has=false then 0 else if(b1||b2||b3||b4||b5||b6)=true then 25 else if traps.any (cqp code.length)=true then 25 else if traps.any (bqv c.pool)=true then 20 else 0 by
  have e8:aqJ acc 8= !st:=by rw [←h8];rfl
  have e6:iqZ acc na=if st=true then(na:Int)+1 else(na:Int):=by unfold iqZ;rw [e8];cases st<;>rfl
  have eb:(code.length=0∨stack<0∨64<stack∨locals<0∨64<locals∨locals<iqZ acc na)=((b1||b2||b3||b4||b5||b6)=true):=by
   rw [←hb1, ←hb2, ←hb3, ←hb4, ←hb5, ←hb6,e6]
   simp only [Bool.or_eq_true,decide_eq_true_eq,beq_iff_eq,or_assoc,Int.natCast_eq_zero]
  rw [←hE]
  unfold jqa cq7 dq3
  (try simp only)
  rw [h1024]
  simp only [eb]
  generalize (b1||b2||b3||b4||b5||b6)=q
  cases has<;>cases ab<;>cases q<;>first|rfl| (simp;done))
 have HH:=Hq (fun(a f:Int) W=>fqo a f W)
 have R0:=Hq ((R5.start h).alloc (.cells #[.int .i64 acc, .int .i64 nm, .int .i64 ds, .bool has, .int .i64 stack, .int .i64 locals, .slice Ac code.length kc, .slice At traps.length kt] 91))
 have M0:=Hq (aqh (w.alloc (.cells #[.int .i64 c.minor, .int .i64 c.major, .slice A c.pool.length cap, .int .i64 c.acc, .int .i64 c.this, .int .i64 c.sup,ifs,flds,mths] 58)) [.int .i64 acc, .int .i64 nm, .int .i64 ds, .bool has, .int .i64 stack, .int .i64 locals, .slice Ac code.length kc, .slice At traps.length kt] 91 (w.heap.size+1) Sp)
 have HTK:=Hq hf
 have hz0:((w.alloc (.cells #[.int .i64 c.minor, .int .i64 c.major, .slice A c.pool.length cap, .int .i64 c.acc, .int .i64 c.this, .int .i64 c.sup,ifs,flds,mths] 58)).alloc (.cells #[.int .i64 acc, .int .i64 nm, .int .i64 ds, .bool has, .int .i64 stack, .int .i64 locals, .slice Ac code.length kc, .slice At traps.length kt] 91)).heap.size=w.heap.size+2:=by simp
 clear h hM hf hE
 rw [aqe]
 unfold bqL
 simp only
 cases has
 case false=>
  cases ab
  all_goals
   go_enter Tryz.func115,Tryz.ntmps115
   go_wp2_with (go_at_call 112;(with_reducible refine(HH.out _ _ _).mono ?_);rintro e w1 ⟨rfl,rfl⟩)
   go_ret
   exact⟨by rw [HE.out];rfl,R0.out.bel⟩
 cases ab
 case true=>
  go_enter Tryz.func115,Tryz.ntmps115
  go_wp2_with (go_at_call 112;(with_reducible refine(HH.out _ _ _).mono ?_);rintro e w1 ⟨rfl,rfl⟩)
  go_ret
  exact⟨by rw [HE.out];rfl,R0.out.bel⟩
 cases st
 all_goals
  simp only [Bool.false_eq_true,if_true,if_false,reduceIte] at hb6
  cases b1
  case true=>
   go_enter Tryz.func115,Tryz.ntmps115
   go_wp2_with (go_at_call 112;(with_reducible refine(HH.out _ _ _).mono ?_);rintro e w1 ⟨rfl,rfl⟩)
   go_ret
   exact⟨by rw [HE.out];rfl,R0.out.bel⟩
  cases b2
  case true=>
   go_enter Tryz.func115,Tryz.ntmps115
   go_wp2_with (go_at_call 112;(with_reducible refine(HH.out _ _ _).mono ?_);rintro e w1 ⟨rfl,rfl⟩)
   go_ret
   exact⟨by rw [HE.out];rfl,R0.out.bel⟩
  cases b3
  case true=>
   go_enter Tryz.func115,Tryz.ntmps115
   go_wp2_with (go_at_call 112;(with_reducible refine(HH.out _ _ _).mono ?_);rintro e w1 ⟨rfl,rfl⟩)
   go_ret
   exact⟨by rw [HE.out];rfl,R0.out.bel⟩
  cases b4
  case true=>
   go_enter Tryz.func115,Tryz.ntmps115
   go_wp2_with (go_at_call 112;(with_reducible refine(HH.out _ _ _).mono ?_);rintro e w1 ⟨rfl,rfl⟩)
   go_ret
   exact⟨by rw [HE.out];rfl,R0.out.bel⟩
  cases b5
  case true=>
   go_enter Tryz.func115,Tryz.ntmps115
   go_wp2_with (go_at_call 112;(with_reducible refine(HH.out _ _ _).mono ?_);rintro e w1 ⟨rfl,rfl⟩)
   go_ret
   exact⟨by rw [HE.out];rfl,R0.out.bel⟩
  cases b6
  case true=>
   go_enter Tryz.func115,Tryz.ntmps115
   go_wp2_with (go_at_call 112;(with_reducible refine(HH.out _ _ _).mono ?_);rintro e w1 ⟨rfl,rfl⟩)
   go_ret
   exact⟨by rw [HE.out];rfl,R0.out.bel⟩
  replace HE:=Hq (show E=if traps.any (cqp code.length)=true then 25 else if traps.any (bqv c.pool)=true then 20 else 0 from HE.out)
  go_enter Tryz.func115,Tryz.ntmps115
  go_wp2_with (go_at_call 112;(with_reducible refine(HH.out _ _ _).mono ?_);rintro e w1 ⟨rfl,rfl⟩)
  clear hb1 hb2 hb3 hb4 hb5 hb6
  obtain⟨w0,hw0⟩: ∃W,W=(w.alloc (.cells #[.int .i64 c.minor, .int .i64 c.major, .slice A c.pool.length cap, .int .i64 c.acc, .int .i64 c.this, .int .i64 c.sup,ifs,flds,mths] 58)).alloc (.cells #[.int .i64 acc, .int .i64 nm, .int .i64 ds, .bool true, .int .i64 stack, .int .i64 locals, .slice Ac code.length kc, .slice At traps.length kt] 91):=⟨_,rfl⟩
  rw [←hw0] at R0 M0 hz0⊢
  replace HT:=Hq (HT.out.keep (aqC.of_below R0.out.bel))
  have hsw:w.heap.size≤w0.heap.size:=R0.out.bel.size
  clear hw0
  go_loopw [8] (fun i wr=> ∃k:Nat,k≤traps.length∧i= .int .i64 k∧Hid (Below w0.heap.size w0 wr)∧Hid (E=if(traps.drop k).any (cqp code.length)=true then 25 else if traps.any (bqv c.pool)=true then 20 else 0)) (fun i _=>traps.length - (RowKit.intOf i).toNat)
  case atStart=>exact⟨0,by omega,rfl,Hq Rf9,HE⟩
  case round=>
   obtain⟨k,hk,rfl,Br,HEr⟩:=hrel
   have m7:=(M0.out.below Br.out M0.out.lt).cell 7 rfl
   have m6:=(M0.out.below Br.out M0.out.lt).cell 6 rfl
   by_cases hlt:k<traps.length
   ·obtain⟨t,ht⟩: ∃t,traps[k]?=some t:=⟨_,List.getElem?_eq_getElem hlt⟩
    obtain⟨b,off,hAt,hbl,p0,p1,p2,p3⟩:=cqJ (HT.out.keep (aqC.of_below Br.out)) k t ht
    subst hAt
    obtain⟨d0,hd0⟩: ∃v,decide (t.lo<0)=v:=⟨_,rfl⟩
    obtain⟨d1,hd1⟩: ∃v,decide (t.hi≤t.lo)=v:=⟨_,rfl⟩
    obtain⟨d2,hd2⟩: ∃v,decide ((code.length:Int) <t.hi)=v:=⟨_,rfl⟩
    obtain⟨d3,hd3⟩: ∃v,decide (t.tgt<0)=v:=⟨_,rfl⟩
    obtain⟨d4,hd4⟩: ∃v,decide ((code.length:Int)≤t.tgt)=v:=⟨_,rfl⟩
    have HD:=Hq (HEr.out.trans (show _=if(d0||d1||d2||d3||d4)=true then 25 else if(traps.drop (k+1)).any (cqp code.length)=true then 25 else if traps.any (bqv c.pool)=true then 20 else 0 by
     rw [jqR ht,show cqp code.length t=(d0||d1||d2||d3||d4) by unfold cqp;rw [hd0,hd1,hd2,hd3,hd4]]
     generalize (d0||d1||d2||d3||d4)=q
     cases q<;>simp))
    have HB2:=Hq (Br.out.alloc Br.out.size (.cells #[.int .i64 t.lo, .int .i64 t.hi, .int .i64 t.tgt, .int .i64 t.kind] 157))
    have m6':(wr.alloc (.cells #[.int .i64 t.lo, .int .i64 t.hi, .int .i64 t.tgt, .int .i64 t.kind] 157)).cell? ⟨w.heap.size+1,6,none⟩=some (.slice Ac code.length kc):=(M0.out.below HB2.out M0.out.lt).cell 6 rfl
    clear ht HEr m6
    cases d0
    case true=>
     go_wp2_with fail
     go_ret
     exact⟨by rw [HD.out];rfl,R0.out.bel.trans (HB2.out.mono hsw)⟩
    cases d1
    case true=>
     go_wp2_with fail
     go_ret
     exact⟨by rw [HD.out];rfl,R0.out.bel.trans (HB2.out.mono hsw)⟩
    cases d2
    case true=>
     go_wp2_with fail
     go_ret
     exact⟨by rw [HD.out];rfl,R0.out.bel.trans (HB2.out.mono hsw)⟩
    cases d3
    case true=>
     go_wp2_with fail
     go_ret
     exact⟨by rw [HD.out];rfl,R0.out.bel.trans (HB2.out.mono hsw)⟩
    cases d4
    case true=>
     go_wp2_with fail
     go_ret
     exact⟨by rw [HD.out];rfl,R0.out.bel.trans (HB2.out.mono hsw)⟩
    go_wp2_with fail
    go_roundw
    case rel=>exact⟨k+1,by omega,by go_num,HB2,HD⟩
    case measure=>simp [RowKit.intOf];omega
   replace HEr:=Hq (HEr.out.trans (show _=if traps.any (bqv c.pool)=true then 20 else 0 by rw [List.drop_of_length_le Om];rfl))
   clear m6
   go_wp2_with fail
   go_loopw [10] (fun i wq=> ∃k:Nat,k≤traps.length∧i= .int .i64 k∧Hid (Below w0.heap.size w0 wq)∧Hid (E=if(traps.drop k).any (bqv c.pool)=true then 20 else 0)) (fun i _=>traps.length - (RowKit.intOf i).toNat)
   case atStart=>exact⟨0,by omega,rfl,Br,HEr⟩
   case round=>
    obtain⟨j,hj,rfl,Bq,HEq⟩:=hrel
    have n7:=(M0.out.below Bq.out M0.out.lt).cell 7 rfl
    by_cases hjt:j<traps.length
    ·obtain⟨t,ht⟩: ∃t,traps[j]?=some t:=⟨_,List.getElem?_eq_getElem hjt⟩
     obtain⟨b,off,hAt,hbl,p0,p1,p2,p3⟩:=cqJ (HT.out.keep (aqC.of_below Bq.out)) j t ht
     subst hAt
     have HKF:=Hq (HTK.out t (List.mem_of_getElem? ht))
     obtain⟨x4,hx4⟩: ∃x,(aqt c.pool t.kind 7).getD aqY=x:=⟨_,rfl⟩
     obtain⟨d4,hd4⟩: ∃b,(aqt c.pool t.kind 7).isSome=b:=⟨_,rfl⟩
     obtain⟨d0,hd0⟩: ∃v,((t.kind:Int) !=0)=v:=⟨_,rfl⟩
     have HX4:=Hq hx4
     have HD4:=Hq hd4
     have HD:=Hq (HEq.out.trans (show _=if(d0&& !d4)=true then 20 else if(traps.drop (j+1)).any (bqv c.pool)=true then 20 else 0 by
      rw [jqR ht,show bqv c.pool t=(d0&& !d4) by unfold bqv;rw [hd4,hd0]]
      generalize (d0&& !d4)=q
      cases q<;>simp))
     have RT:=Hq ((R0.out.below Bq.out).alloc (.cells #[.int .i64 t.lo, .int .i64 t.hi, .int .i64 t.tgt, .int .i64 t.kind] 157))
     have XT:=Hq (aql wr [.int .i64 t.lo, .int .i64 t.hi, .int .i64 t.tgt, .int .i64 t.kind] 157)
     have HB2:=Hq (Bq.out.alloc Bq.out.size (.cells #[.int .i64 t.lo, .int .i64 t.hi, .int .i64 t.tgt, .int .i64 t.kind] 157))
     clear ht HEq hx4 hd4
     go_wp2_with (first
      | (refine wpList_load_row rfl _ _ rfl w.heap.size rfl _ _ _ _ RT.out.bx Tryz.underlying58 rfl Kq9 ?_)
      | (go_at_call 91;refine aqa ?_))
     refine aqb ?_
     refine(cq3 c A cap ifs flds mths t.kind 7 ok _ RT.out.bk.hp RT.out.bk.h1 RT.out.bk.h2 RT.out.bk.h3 HKF.out.2 HKF.out.1).mono ?_
     rintro e w4 ⟨rfl,hb⟩
     simp only [bqc,koV]
     rw [HX4.out,HD4.out]
     have x3:=(((XT.out.below hb XT.out.lt)).below ((Below.refl w4.heap.size w4).alloc Nr (.cells #[.int .i64 x4.tag, .string x4.text, .int .i64 x4.num, .int .i64 x4.a, .int .i64 x4.b] 78)) (Nat.lt_of_lt_of_le XT.out.lt hb.size)).cell 3 rfl
     have HB4:=Hq ((HB2.out.trans (hb.mono HB2.out.size)).alloc (Nat.le_trans HB2.out.size hb.size) (.cells #[.int .i64 x4.tag, .string x4.text, .int .i64 x4.num, .int .i64 x4.a, .int .i64 x4.b] 78))
     clear hb HB2 RT XT
     cases d0
     ·cases d4
      all_goals
       go_wp2_with fail
       go_roundw
       case rel=>exact⟨j+1,by omega,by go_num,HB4,HD⟩
       case measure=>simp [RowKit.intOf];omega
     cases d4
     ·go_wp2_with fail
      go_ret
      exact⟨by rw [HD.out];rfl,R0.out.bel.trans (HB4.out.mono hsw)⟩
     go_wp2_with fail
     go_roundw
     case rel=>exact⟨j+1,by omega,by go_num,HB4,HD⟩
     case measure=>simp [RowKit.intOf];omega
    have HY:=Hq (show E=0 by rw [HEq.out,List.drop_of_length_le Om];rfl)
    go_wp2_with fail
    go_ret
    exact⟨by rw [HY.out];rfl,R0.out.bel.trans (Bq.out.mono hsw)⟩
end Go.Proofs.YtdbniocnjhfhdaaGreatDoor
