/- Part 33 of what the laws rest on: walks. Conditions: those that each theorem names. -/
import Derived.Test.YtdbniocnjhfhdaaGreatDoorB26
import Derived.Test.YtdbniocnjhfhdaaGreatDoorB32
set_option linter.unusedSimpArgs false
set_option linter.unusedVariables false
set_option maxRecDepth 100000
set_option maxHeartbeats 2000000
namespace Go.Proofs.YtdbniocnjhfhdaaGreatDoor
open Go Go.RowKit Lib
theorem fq7 {ns:List (List UInt8)} {s:List UInt8} (h:s∉ns):cq9 ns s= -1:=by
 unfold cq9
 rw [List.findIdx?_eq_none_iff.2 fun x hx=>by
  simp only [beq_eq_false_iff_ne,ne_eq]
  exact fun e=>h (e▸hx)]
theorem gq6 {ns:List (List UInt8)} {s:List UInt8} (h:s∈ns): ∃k:Nat,cq9 ns s=k:=by
 have: ¬cq9 ns s<0:=fun h0=>mqZ h0 h
 exact⟨_,(Int.toNat_of_nonneg Om).symm⟩
theorem fqp: ∀(fs:List (List UInt8×List UInt8)) (s:List UInt8),(cq9 (fs.map (·.1)) s= -1∧bql fs s=none)∨ ∃(k:Nat) (p:List UInt8×List UInt8),cq9 (fs.map (·.1)) s=k∧fs[k]?=some p∧bql fs s=some p.2
 | [],s=> .inl ⟨rfl,rfl⟩
 |p::fs,s=>by
  by_cases h:p.1=s
  ·refine .inr ⟨0,p, ?_,rfl, ?_⟩
   ·unfold cq9
    simp [List.findIdx?_cons,h]
   unfold bql
   simp [List.find?_cons,h]
  have hb:(p.1==s)=false:=beq_eq_false_iff_ne.2 h
  have e1:bql (p::fs) s=bql fs s:=by
   unfold bql
   rw [List.find?_cons,hb]
  have e2:cq9 ((p::fs).map (·.1)) s=match(fs.map (·.1)).findIdx? (fun x=>x==s) with|none=> -1|some k=> ((k+1:Nat):Int):=by
   unfold cq9
   rw [List.map_cons,List.findIdx?_cons,hb]
   cases (fs.map (·.1)).findIdx? (fun x=>x==s) <;>rfl
  have e3:cq9 (fs.map (·.1)) s=match(fs.map (·.1)).findIdx? (fun x=>x==s) with|none=> -1|some k=> (k:Int):=by
   unfold cq9
   cases (fs.map (·.1)).findIdx? (fun x=>x==s) <;>rfl
  rcases fqp fs s with⟨h1,h2⟩ | ⟨k,q,h1,h2,h3⟩
  ·left
   rw [e1,e2]
   rw [e3] at h1
   cases hq:(fs.map (·.1)).findIdx? (fun x=>x==s) with
   |none=>exact⟨rfl,h2⟩
   |some k=>rw [hq] at h1;simp at h1
  right
  rw [e1,e2]
  rw [e3] at h1
  cases hq:(fs.map (·.1)).findIdx? (fun x=>x==s) with
  |none=>rw [hq] at h1;simp at h1
  |some k'=>
   rw [hq] at h1
   simp only at h1
   exact⟨k+1,q,by simp only;omega,by simpa using h2,h3⟩
def oqv (ld:LT→ByteArray→Option ByteArray×LT) (s:ByteArray) (l:List ByteArray) (o:Option ByteArray) (σ:LT):Option ByteArray×LT:=match o with
 |some e=> (some e,σ)
 |none=>bq1 ld s l σ
structure CtR (L:eqk) (G K:Nat) (cs ts:List Value) (c:aqc) (t:cqO) (p i f m iv fv mv:Value) (going:List (List UInt8)) (bv:Value) (v:Nat→Value) (W:World):Prop where
 gc:Bx W G cs 58
 gt:Bx W K ts 39
 r0:L.ro v G
 r1:L.ro v K
 ca:aqy W (L.ro v) c p i f m
 ta:dqX W (L.ro v) t iv fv mv
 bu:jqH W (L.ro v) going bv
theorem CtR.rfr {B:Nat} {L:eqk} {v v':Nat→Value} {W W':World} {G K:Nat} {cs ts:List Value} {c:aqc} {t:cqO} {p i f m iv fv mv:Value} {going:List (List UInt8)} {bv:Value} (h:CtR L G K cs ts c t p i f m iv fv mv going bv v W) (hf:RFr B L v W v' W'):CtR L G K cs ts c t p i f m iv fv mv going bv v' W':=
 ⟨h.gc.rfr hf h.r0.1,h.gt.rfr hf h.r1.1,hf.ro _ h.gc.lt h.r0,hf.ro _ h.gt.lt h.r1,h.ca.step hf.kept hf.ro,
  ⟨bqF h.ta.hi hf.kept hf.ro,bqF h.ta.hf hf.kept hf.ro,bqF h.ta.hm hf.kept hf.ro⟩,bqF h.bu hf.kept hf.ro⟩
theorem kqJ (fs:List (List UInt8×List UInt8)) (dn:List (List UInt8)) (K:LdK aqK (bql fs) dn) (hfl:fs.length≤64) (n:Nat) (ih:jqI fs dn n):jqI fs dn (n+1):=by
  intro B L files ts v W going bv s h hk hbu hs hfu hgo
  obtain⟨r,hr⟩: ∃r,aqM (rdD aqK (bql fs)) (n+1) going ⟨ts.map TyV.key,files⟩ s=r:=⟨_,rfl⟩
  rw [hr]
  have hnm:(⟨ts.map TyV.key,files⟩:LT).names=ts.map TyV.name:=by unfold LT.names;rw [List.map_map];rfl
  rw [aqM,hnm] at hr
  have hkl:=hk.len K.cnt
  simp only [List.length_map] at hkl
  obtain⟨g,cap,hv,hcap,hgl,hcell⟩:=h.rows hkl.1
  have c1:=h.bx.cell 1 rfl
  rw [hv] at c1
  have hsn:s.toList=s.data.toList:=ByteArray.toList_eq _
  have HAT:=Hq (iqL g ts.length cap (ts.map TyV.name) s W Sp hcap Om (fun j t ht=>by
   rw [List.getElem?_map] at ht
   obtain⟨u,hu,rfl⟩:=Option.map_eq_some_iff.1 ht
   exact hcell j u hu 0 Om))
  rw [hsn] at HAT
  obtain⟨Ab,cb,rfl,hcb,hmb⟩:=aqd hbu
  have HHS:=Hq (lqs Ab cb going s W hcb Om (fun j t ht=>by
   obtain⟨A',cap',e,_,_,_,h5⟩:=hbu
   cases e
   obtain⟨b,off,e,_,_,hc⟩:=h5 (by have:=(List.getElem?_eq_some_iff.1 ht).1;omega)
   exact⟨b,off,e,hc j _ (by rw [List.getElem?_map,ht];rfl)⟩))
  rw [hsn] at HHS
  have H:=Hq h
  have HKS:=Hq hk
  have HR:=Hq hr
  have HI:=Hq ih
  have HFU:=Hq hfu
  have HKK:=Hq K
  have HBU:=Hq hbu
  clear h hk hr ih hfu K hbu hcell hv
  by_cases h1:s.data.toList∈ts.map TyV.name
  ·have HRR:=Hq (show r=(none,⟨ts.map TyV.key,files⟩) by rw [←HR.out,if_pos h1])
   obtain⟨k,hk⟩:=gq6 h1
   rw [hk] at HAT
   clear h1 HR hk
   go_enter Tryz.func33,Tryz.ntmps33
   go_wp2_with (go_at_call 16;refine HAT.out.mono ?_;rintro e w1 ⟨rfl,rfl⟩)
   go_ret
   rw [HRR.out]
   exact⟨ts,v,rfl,rfl,H.out,HKS.out,RFr.of_below H.out.le Rf9⟩
  rw [fq7 h1] at HAT
  by_cases h2:s.data.toList∈going
  ·have HRR:=Hq (show r=(some mqX,⟨ts.map TyV.key,files⟩) by rw [←HR.out,if_neg h1,if_pos h2])
   rw [decide_eq_true h2] at HHS
   clear h1 h2 HR
   go_enter Tryz.func33,Tryz.ntmps33
   go_wp2_with (first
    | (go_at_call 16;refine HAT.out.mono ?_;rintro e w1 ⟨rfl,rfl⟩)
    | (go_at_call 57;refine HHS.out.mono ?_;rintro e w1 ⟨rfl,rfl⟩))
   go_ret
   rw [HRR.out]
   exact⟨ts,v,rfl,rfl,H.out,HKS.out,RFr.of_below H.out.le Rf9⟩
  have HRR:=Hq (show r=match rdD aqK (bql fs) s with
    | .error e=> (some e,⟨ts.map TyV.key,files⟩)
    | .ok (c,t)=>eq0 s c t (match bqd (aqM (rdD aqK (bql fs)) n (going++ [s.data.toList])) ⟨ts.map TyV.key,files⟩ s t.sup false with
     | (some e,σ1)=> (some e,σ1)
     | (none,σ1)=>bq1 (aqM (rdD aqK (bql fs)) n (going++ [s.data.toList])) s t.ifs σ1) by
   rw [←HR.out,if_neg h1,if_neg h2]
   rcases rdD aqK (bql fs) s with e| ⟨c,t⟩
   ·rfl
   simp only
   rcases bqd (aqM (rdD aqK (bql fs)) n (going++ [s.data.toList])) ⟨ts.map TyV.key,files⟩ s t.sup false with⟨_|e,σ1⟩
   ·simp only
    rcases bq1 (aqM (rdD aqK (bql fs)) n (going++ [s.data.toList])) s t.ifs σ1 with⟨_|e,σ2⟩ <;>rfl
   rfl)
  have HNK:=Hq h1
  have HNG:=Hq h2
  rw [decide_eq_false h2] at HHS
  obtain⟨qs,f1,f2,f3⟩:=H.out.hf
  obtain⟨Af,cf,hvf⟩:=aq7 f2
  have hfq:qs.length=fs.length:=by rw [←f1,List.length_map]
  have c0:=H.out.bx.cell 0 rfl
  rw [hvf] at c0 f2
  have hcf:fs.length≤cf:=by
   obtain⟨_,_,e,h,_⟩:=aqs f2 (fun _=>True) Om Om (fun _ _=>trivial)
   cases e
   exact h
  have hfc: ∀j q,qs[j]?=some q→ ∃g,Af=some ⟨g,0,none⟩∧W.cell? ⟨g,j*2,none⟩=some (.string ⟨q.1.toArray⟩)∧W.cell? ⟨g,j*2+1,none⟩=some q.2.1:=fun j q hj=>by
   have hjl:=(List.getElem?_eq_some_iff.1 hj).1
   have hx:=jqK (fun q:List UInt8×Value×List UInt8=>Value.string ⟨q.1.toArray⟩) (fun q=>q.2.1) qs j
   rw [hj] at hx
   rcases f2.2 with⟨_,h0⟩ | ⟨g,_,_,e,_⟩
   ·omega
   injection e with e1 e2 e3
   subst e1
   exact⟨g,rfl,(f2.cellAt (j*2) Om).trans hx.1,(f2.cellAt (j*2+1) Om).trans hx.2⟩
  have HFD:=Hq (hqA L.r cf Af (fs.map (·.1)) s W (by rw [List.length_map];exact c0) (by rw [List.length_map];exact hcf) (by rw [List.length_map];omega) (fun j t ht=>by
   rw [←f1,List.map_map,List.getElem?_map] at ht
   obtain⟨u,hu,rfl⟩:=Option.map_eq_some_iff.1 ht
   obtain⟨g,e,h,_⟩:=hfc j u hu
   exact⟨g,e,h⟩))
  rw [hsn] at HFD
  clear h1 h2 HR hsn
  rcases fqp fs s.data.toList with⟨l1,l2⟩ | ⟨k,p,l1,l2,l3⟩
  ·rw [l1] at HFD
   have HRR2:=Hq (show r=(some eqG,⟨ts.map TyV.key,files⟩) by rw [HRR.out];unfold rdD;rw [l2])
   clear l1 l2 f1 f2 f3 hfc HRR hvf c0
   go_enter Tryz.func33,Tryz.ntmps33
   go_wp2_with (first
    | (go_at_call 16;refine HAT.out.mono ?_;rintro e w1 ⟨rfl,rfl⟩)
    | (go_at_call 57;refine HHS.out.mono ?_;rintro e w1 ⟨rfl,rfl⟩)
    | (go_at_call 36;refine HFD.out.mono ?_;rintro e w1 ⟨rfl,rfl⟩))
   go_ret
   rw [HRR2.out]
   exact⟨ts,v,rfl,rfl,H.out,HKS.out,RFr.of_below H.out.le Rf9⟩
  rw [l1] at HFD
  obtain⟨q,hq,hqp⟩: ∃q,qs[k]?=some q∧(q.1,q.2.2)=p:=by
   rw [←f1,List.getElem?_map] at l2
   exact Option.map_eq_some_iff.1 l2
  have hkl2:=(List.getElem?_eq_some_iff.1 hq).1
  obtain⟨gf,rfl,_,cq⟩:=hfc k q hq
  have hdq:=f3 q (List.mem_of_getElem? hq)
  obtain⟨A2,cap2,e1,e2,e3,e4⟩:=hdq
  injection e1 with e1
  rw [e1] at cq
  have hpl:p.2=q.2.2:=by rw [←hqp]
  rw [hpl] at l3
  obtain⟨l,hl⟩: ∃l,q.2.2=l:=⟨_,rfl⟩
  rw [hl] at l3 e2 e4 cq
  have HRD:=Hq (lqY A2 cap2 l W e2 (fun a ha=> (e3 a ha).1))
  have HL3:=Hq l3
  have hi0:(0:Int)≤(k:Int):=by omega
  have hi1:(k:Int) < (fs.length:Int):=by omega
  clear l1 l2 l3 f1 f2 f3 hfc hvf hq hqp e1 e2 e3 hpl hl
  go_enter Tryz.func33,Tryz.ntmps33
  go_wp2_with (first
   | (go_at_call 16;refine HAT.out.mono ?_;rintro e w1 ⟨rfl,rfl⟩)
   | (go_at_call 57;refine HHS.out.mono ?_;rintro e w1 ⟨rfl,rfl⟩)
   | (go_at_call 36;refine HFD.out.mono ?_;rintro e w1 ⟨rfl,rfl⟩)
   | (go_at_call 58;refine aqa ?_))
  refine aqb ?_
  refine HRD.out.mono ?_
  clear HRD
  intro e w2 hq
  obtain⟨hb2,hq⟩:=hq
  have H2:=Hq (H.out.below hb2)
  have F2:=Hq (RFr.of_below (L:=L) (v:=v) H.out.le hb2)
  have hz2:=hb2.size
  have HFR:=Hq (fun g (hg:W.heap.size≤g)=>H.out.fresh g hg)
  have Y9:=Hq (aql w2 [.int .i64 0, .int .i64 0, .slice none 0 0, .int .i64 0, .int .i64 0, .int .i64 0, .slice none 0 0, .slice none 0 0, .slice none 0 0] 58)
  have HBU2:=Hq (bqF (ok':=L.ro v) HBU.out (aqC.of_below hb2) fun _ _ h=>h)
  have HRR2:=Hq (show r=match gqV aqK l s with
   | .error e=> (some e,⟨ts.map TyV.key,files⟩)
   | .ok (c,t)=>eq0 s c t (match bqd (aqM (rdD aqK (bql fs)) n (going++ [s.data.toList])) ⟨ts.map TyV.key,files⟩ s t.sup false with
    | (some e,σ1)=> (some e,σ1)
    | (none,σ1)=>bq1 (aqM (rdD aqK (bql fs)) n (going++ [s.data.toList])) s t.ifs σ1) by rw [HRR.out];unfold rdD;rw [HL3.out])
  clear hb2 HRR HBU
  rcases hq with⟨q,hrp,c9,b9,er,h9,o9,rfl,hn0,hn12⟩ | ⟨c,pv,iv,fv,mv,hrp,rfl,hca⟩
  ·have HRR3:=Hq (show r=(some iqD,⟨ts.map TyV.key,files⟩) by rw [HRR2.out];unfold gqV;rw [hrp])
   have O9:=Hq o9
   have Z9:=Hq h9
   have e0:(er==0)=false:=by simpa using hn0
   have e1:(er==12)=false:=by simpa using hn12
   have e2:(er !=0)=true:=by simpa using hn0
   clear hrp o9 h9 HRR2 hn0 hn12
   go_wp2_with (refine wpList_store_row rfl _ _ _ rfl w2.heap.size c9.toArray rfl rfl _ _ Y9.out (by rw [List.size_toArray,Z9.out];kernel_rfl) (by simp only [List.size_toArray];rw [Z9.out];rfl) (by simpa using O9.out) ?_)
   have HB3:=aqH ((Below.refl w2.heap.size w2).alloc Nr (.cells #[.int .i64 0, .int .i64 0, .slice none 0 0, .int .i64 0, .int .i64 0, .int .i64 0, .slice none 0 0, .slice none 0 0, .slice none 0 0] 58)) w2.heap.size c9.toArray Nr
   go_ret
   rw [HRR3.out]
   exact⟨ts,v,rfl,rfl,H2.out.below HB3,HKS.out,F2.out.trans (RFr.of_below H2.out.le HB3)⟩
  obtain⟨hfine,hcnt⟩:=eq3 hrp
  obtain⟨Ap,kp,rfl,_⟩:=aqd hca.hpool
  obtain⟨Ai,ki,rfl,_⟩:=aqd hca.hifs
  obtain⟨Ag,kg,rfl,_⟩:=aqd hca.hflds
  obtain⟨ms,_,hms2,_⟩:=id hca.hmths
  obtain⟨Am,km,rfl,_⟩:=aqd hms2
  unfold aqc.cells
  have HFI:=Hq hfine
  have HRP:=Hq hrp
  have HB3:=Hq (aqH ((Below.refl w2.heap.size w2).alloc Nr (.cells #[.int .i64 0, .int .i64 0, .slice none 0 0, .int .i64 0, .int .i64 0, .int .i64 0, .slice none 0 0, .slice none 0 0, .slice none 0 0] 58)) w2.heap.size #[.int .i64 c.minor, .int .i64 c.major, .slice Ap c.pool.length kp, .int .i64 c.acc, .int .i64 c.this, .int .i64 c.sup, .slice Ai c.ifs.length ki, .slice Ag c.flds.length kg, .slice Am c.mths.length km] Nr)
  have X3:=Hq (Y9.out.row [.int .i64 c.minor, .int .i64 c.major, .slice Ap c.pool.length kp, .int .i64 c.acc, .int .i64 c.this, .int .i64 c.sup, .slice Ai c.ifs.length ki, .slice Ag c.flds.length kg, .slice Am c.mths.length km])
  have HCA:=Hq (hca.keep (aqC.of_below HB3.out))
  obtain⟨E,hE⟩: ∃E,aqK c=E:=⟨_,rfl⟩
  have HE:=Hq hE
  have HRR3:=Hq (show r=match(if E=12 then .error mqW else if E≠0 then .error iqD else if(aqX c).name=s then .ok (c,aqX c) else .error eqG:Except ByteArray (aqc×cqO)) with
   | .error e=> (some e,⟨ts.map TyV.key,files⟩)
   | .ok (c,t)=>eq0 s c t (match bqd (aqM (rdD aqK (bql fs)) n (going++ [s.data.toList])) ⟨ts.map TyV.key,files⟩ s t.sup false with
    | (some e,σ1)=> (some e,σ1)
    | (none,σ1)=>bq1 (aqM (rdD aqK (bql fs)) n (going++ [s.data.toList])) s t.ifs σ1) by rw [HRR2.out];unfold gqV;rw [hrp];simp only [hE])
  have hl2:w2.heap.size< ((w2.alloc (.cells #[.int .i64 0, .int .i64 0, .slice none 0 0, .int .i64 0, .int .i64 0, .int .i64 0, .slice none 0 0, .slice none 0 0, .slice none 0 0] 58)).setRow w2.heap.size #[.int .i64 c.minor, .int .i64 c.major, .slice Ap c.pool.length kp, .int .i64 c.acc, .int .i64 c.this, .int .i64 c.sup, .slice Ai c.ifs.length ki, .slice Ag c.flds.length kg, .slice Am c.mths.length km]).heap.size:=by simp
  clear hrp hca hms2 hfine hE HRR2
  go_wp2_with (first
   | (refine wpList_store_row rfl _ _ _ rfl w2.heap.size _ rfl rfl _ _ Y9.out Kq9 rfl Oc ?_)
   | (refine wpList_load_row rfl _ _ rfl w2.heap.size rfl _ _ _ _ X3.out Tryz.underlying58 rfl Kq9 ?_)
   | (go_at_call 59;refine aqa ?_))
  refine aqb ?_
  have H3:=Hq (H2.out.below HB3.out)
  have F3:=Hq (F2.out.trans (RFr.of_below H2.out.le HB3.out))
  have HBU3:=Hq (bqF (ok':=L.ro v) HBU2.out (aqC.of_below HB3.out) fun _ _ h=>h)
  generalize (w2.alloc (.cells #[.int .i64 0, .int .i64 0, .slice none 0 0, .int .i64 0, .int .i64 0, .int .i64 0, .slice none 0 0, .slice none 0 0, .slice none 0 0] 58)).setRow w2.heap.size #[.int .i64 c.minor, .int .i64 c.major, .slice Ap c.pool.length kp, .int .i64 c.acc, .int .i64 c.this, .int .i64 c.sup, .slice Ai c.ifs.length ki, .slice Ag c.flds.length kg, .slice Am c.mths.length km]=w3 at*
  refine(gqI c _ _ _ _ _ _ HCA.out HFI.out).mono ?_
  rw [HE.out]
  rintro e w4 ⟨rfl,hb4⟩
  have H4:=Hq (H3.out.below hb4)
  have F4:=Hq (F3.out.trans (RFr.of_below H3.out.le hb4))
  have X4:=Hq (X3.out.below hb4 hl2)
  have HCA4:=Hq (HCA.out.keep (aqC.of_below hb4))
  have HBU4:=Hq (bqF (ok':=L.ro v) HBU3.out (aqC.of_below hb4) fun _ _ h=>h)
  have hz4:=hb4.size
  clear hb4 Y9 H2 F2 HB3 X3 HCA H3 F3 HBU2 HBU3 H HAT HHS HFD
  by_cases h12:E=12
  ·subst h12
   go_wp2_with fail
   go_ret
   rw [HRR3.out]
   exact⟨ts,v,rfl,rfl,H4.out,HKS.out,F4.out⟩
  have e1:(E==12)=false:=by simpa using h12
  by_cases h0:E=0
  case neg=>
   have e2:(E !=0)=true:=by simpa using h0
   have HRR4:=Hq (HRR3.out.trans (by rw [if_neg h12,if_pos h0]))
   go_wp2_with fail
   go_ret
   rw [HRR4.out]
   exact⟨ts,v,rfl,rfl,H4.out,HKS.out,F4.out⟩
  subst h0
  clear e1 h12
  go_wp2_with (first
   | (refine wpList_load_row rfl _ _ rfl w2.heap.size rfl _ _ _ _ X4.out Tryz.underlying58 rfl Kq9 ?_)
   | (go_at_call 60;refine aqa ?_))
  refine aqb ?_
  refine(hq5 c _ _ _ _ _ _ HCA4.out HFI.out HE.out).mono ?_
  intro e w5 hq
  obtain⟨hb5,iv,fv,mv,rfl,hta⟩:=hq
  obtain⟨t,ht⟩: ∃t,aqX c=t:=⟨_,rfl⟩
  have HSM0:=HKK.out.small _ _ _ HL3.out HRP.out
  rw [ht] at hta HRR3 HSM0⊢
  have HSM:=Hq HSM0
  obtain⟨Bi,ji,rfl,_⟩:=aqd hta.hi
  obtain⟨Bf,jf,rfl,_⟩:=aqd hta.hf
  obtain⟨Bm,jm,rfl,_⟩:=aqd hta.hm
  unfold cqO.vals
  have H5:=Hq (H4.out.below hb5)
  have F5:=Hq (F4.out.trans (RFr.of_below H4.out.le hb5))
  have hz5:=hb5.size
  have HTA:=Hq hta
  have X5:=Hq (X4.out.below hb5 Om)
  have HCA5:=Hq (HCA4.out.keep (aqC.of_below hb5))
  have HBU5:=Hq (bqF (ok':=L.ro v) HBU4.out (aqC.of_below hb5) fun _ _ h=>h)
  have HDN:=Hq (HKK.out.dom _ _ HL3.out)
  have hifl:t.ifs.length≤64:=HSM0.2.2.1
  clear hb5 hta ht HSM0 H4 F4 X4 HCA4 HBU4
  obtain⟨nb,hnb⟩: ∃nb,(t.name.toList==s.toList)=nb:=⟨_,rfl⟩
  have HNB:=Hq hnb
  cases nb
  case false=>
   have hne:t.name≠s:=fun e=>by
    have:=HNB.out
    rw [e] at this
    simp at this
   have HRR4:=Hq (HRR3.out.trans (by rw [if_neg Dd9,if_neg Dd9,if_neg hne]))
   have HB6:=(Below.refl w5.heap.size w5).alloc Nr (.cells #[.string t.name, .string t.sup, .int .i64 t.acc, .slice Bi t.ifs.length ji, .slice Bf t.flds.length jf, .slice Bm t.mths.length jm] 39)
   clear hne
   go_wp2_with fail
   go_ret
   rw [HRR4.out]
   exact⟨ts,v,rfl,rfl,H5.out.below HB6,HKS.out,F5.out.trans (RFr.of_below H5.out.le HB6)⟩
  have heq:t.name=s:=bqJ (by rw [←ByteArray.toList_eq, ←ByteArray.toList_eq];exact beq_iff_eq.1 HNB.out)
  have HRR4:=Hq (HRR3.out.trans (by rw [if_neg Dd9,if_neg Dd9,if_pos heq]))
  have HNM:=Hq heq
  clear heq
  have T6:=Hq (aql w5 [.string t.name, .string t.sup, .int .i64 t.acc, .slice Bi t.ifs.length ji, .slice Bf t.flds.length jf, .slice Bm t.mths.length jm] 39)
  have D6:=Hq ((Below.refl w5.heap.size w5).alloc Nr (.cells #[.string t.name, .string t.sup, .int .i64 t.acc, .slice Bi t.ifs.length ji, .slice Bf t.flds.length jf, .slice Bm t.mths.length jm] 39))
  have SB:=Hq (HBU5.out.keep (aqC.of_below D6.out)).src
  have LB:=Hq (show(going.map fun s=>Value.string ⟨s.toArray⟩).length=going.length*1 by simp)
  have hgo1:going.length+1≤1000:=by omega
  go_wp2_with (at_builtin;refine cq4 rfl _ _ 36 rfl Tryz.underlying36 cqK rfl Om (w5.heap.size+1) rfl (World.ownsRow_nil _ _ _ _) rfl LB.out SB.out (fun u hu=>by obtain⟨_,_,rfl⟩:=List.mem_map.1 hu;rfl) Mz Om Sp ?_;intro v7 w7 ho7 hg7 hb7;refine aqa ?_)
  have HO7:=Hq (aqF ho7 (Nat.zero_add _) (List.nil_append _))
  have T7:=Hq (T6.out.below hb7 Om)
  have D7:=Hq (D6.out.trans (hb7.mono Om))
  have hz7:=hb7.size
  simp only [World.size_alloc] at hz7
  clear ho7 hg7 hb7 SB LB T6 D6
  refine aqb ?_
  go_wp2_with (at_builtin;refine bqi rfl _ _ 36 rfl Tryz.underlying36 cqK rfl Om (w5.heap.size+1) rfl (HO7.out.alloc _) rfl rfl (fun _=> ⟨_,rfl,aqm _ _ _ _ Sp⟩) Oc Om Mz Om Sd ?_;intro gb cb2 w8 ho8 hg8 hb8 hgg8 hlt8;refine aqa ?_)
  have D8:=Hq ((D7.out.alloc Om (.cells #[.string s] 9)).trans (hb8.mono Om))
  have HO8:=Hq (aqF (ys:=(going++ [s.data.toList]).map fun s=>Value.string ⟨s.toArray⟩) ho8 rfl (by rw [List.map_append];simp [eqL]))
  have CT8:=Hq (show CtR L w2.heap.size w5.heap.size [.int .i64 c.minor, .int .i64 c.major, .slice Ap c.pool.length kp, .int .i64 c.acc, .int .i64 c.this, .int .i64 c.sup, .slice Ai c.ifs.length ki, .slice Ag c.flds.length kg, .slice Am c.mths.length km] [.string t.name, .string t.sup, .int .i64 t.acc, .slice Bi t.ifs.length ji, .slice Bf t.flds.length jf, .slice Bm t.mths.length jm] c t (.slice Ap c.pool.length kp) (.slice Ai c.ifs.length ki) (.slice Ag c.flds.length kg) (.slice Am c.mths.length km) (.slice Bi t.ifs.length ji) (.slice Bf t.flds.length jf) (.slice Bm t.mths.length jm) (going++ [s.data.toList]) (.slice (some ⟨gb,0,none⟩) (going.length+1) cb2) v w8 from
   ⟨X5.out.below D8.out Om,(T7.out.below (Rf9.alloc Nr _) Om).below hb8 Om,HFR.out _ Om,HFR.out _ Om,HCA5.out.step (aqC.of_below D8.out) (fun g _ h=>HFR.out g Om),
    (HTA.out.keep (aqC.of_below D8.out)).mono (fun g _ h=>HFR.out g Om),by
     have:=aqs HO8.out (L.ro v) Om Om (fun g hg=>HFR.out g (by have:=(HO8.out.lt g hg).1;omega))
     unfold jqH
     rw [List.length_append]
     exact this⟩)
  have H8:=Hq (H5.out.below D8.out)
  have F8:=Hq (F5.out.trans (RFr.of_below H5.out.le D8.out))
  have hz8:=D8.out.size
  clear ho8 hg8 hb8 hgg8 HO7 T7 D7 HO8 HCA5 HTA X5 HBU5 H5 F5 D8 hlt8 hz7
  refine aqb ?_
  have hag:(going++ [s.data.toList]).length+n≤1000:=by simp;omega
  have hfl2:(dn.filter fun x=>decide (x∉going++ [s.data.toList])).length<n:=by have:=fqL HDN.out HNG.out;have:=HFU.out;omega
  have hsn:s.size≤1048576:=hs
  have HAF:=Hq (fun(files':List UInt8→Option aqc) (ts':List TyV) (v':Nat→Value) (W':World) (tq:ByteArray) (fc:Bool) hh kk bb hto=>kqn fs dn HKK.out.cnt n HI.out B L files' ts' v' W' (going++ [s.data.toList]) (.slice (some ⟨gb,0,none⟩) (going.length+1) cb2) s tq fc hh kk bb hsn hto hfl2 hag)
  have g1:=CT8.out.gt.cell 1 rfl
  clear hag hfl2
  go_wp2_with (go_at_call 61;refine aqa ?_)
  refine aqb ?_
  refine(HAF.out files ts v w8 t.sup false H8.out HKS.out CT8.out.bu HSM.out.1).mono ?_
  rintro e w9 ⟨ts4,v4,rfl,hts,hg4,hk4,hf4⟩
  obtain⟨⟨q1,σ4⟩,hq⟩: ∃q,bqd (aqM (rdD aqK (bql fs)) n (going++ [s.data.toList])) ⟨ts.map TyV.key,files⟩ s t.sup false=q:=⟨_,rfl⟩
  rw [hq] at hts hg4
  obtain⟨tsk,fl4⟩:=σ4
  simp only at hts hg4
  subst hts
  have HR4:=Hq (show r=eq0 s c t (oqv (aqM (rdD aqK (bql fs)) n (going++ [s.data.toList])) s (t.ifs.drop 0) q1 ⟨ts4.map TyV.key,fl4⟩) by
   rw [HRR4.out,hq]
   cases q1<;>rfl)
  have H4:=Hq hg4
  have HK4:=Hq hk4
  have F4:=Hq (F8.out.trans hf4)
  have CT4:=Hq (CT8.out.rfr hf4)
  have HNS4:=Hq (eqK HNK.out hq)
  rw [hq]
  simp only
  clear hg4 hk4 hf4 hq g1 HRR4 HRR3 H8 F8 CT8
  go_wp2_with fail
  go_loopw [14,15] (fun er i wr=> ∃(k:Nat) (o:Option ByteArray) (ts5:List TyV) (v5:Nat→Value) (fl5:List UInt8→Option aqc),k≤t.ifs.length∧er= .string (fqP o)∧i= .int .i64 k∧Hid (RfG B L fs ts5 (LT.cls ⟨ts5.map TyV.key,fl5⟩) v5 wr)∧Hid (fqc dn (ts5.map TyV.name))∧Hid (RFr B L v W v5 wr)∧Hid (CtR L w2.heap.size w5.heap.size [.int .i64 c.minor, .int .i64 c.major, .slice Ap c.pool.length kp, .int .i64 c.acc, .int .i64 c.this, .int .i64 c.sup, .slice Ai c.ifs.length ki, .slice Ag c.flds.length kg, .slice Am c.mths.length km] [.string t.name, .string t.sup, .int .i64 t.acc, .slice Bi t.ifs.length ji, .slice Bf t.flds.length jf, .slice Bm t.mths.length jm] c t (.slice Ap c.pool.length kp) (.slice Ai c.ifs.length ki) (.slice Ag c.flds.length kg) (.slice Am c.mths.length km) (.slice Bi t.ifs.length ji) (.slice Bf t.flds.length jf) (.slice Bm t.mths.length jm) (going++ [s.data.toList]) (.slice (some ⟨gb,0,none⟩) (going.length+1) cb2) v5 wr)∧Hid (s.data.toList∉ts5.map TyV.name)∧Hid (r=eq0 s c t (oqv (aqM (rdD aqK (bql fs)) n (going++ [s.data.toList])) s (t.ifs.drop k) o ⟨ts5.map TyV.key,fl5⟩))) (fun _ i _=>t.ifs.length - (RowKit.intOf i).toNat)
  case atStart=>exact⟨0,q1,ts4,v4,fl4,by omega,rfl,rfl,H4,HK4,F4,CT4,HNS4,HR4⟩
  case round=>
   obtain⟨wr1,hwr⟩: ∃X,X=wr:=⟨_,rfl⟩
   subst hwr
   obtain⟨k2,o,ts5,v5,fl5,hk2,rfl,rfl,H5,HK5,F5,CT5,HNS5,HR5⟩:=hrel
   have g3:=CT5.out.gt.cell 3 rfl
   cases o
   case some er=>
    have hne:=lqR er
    have HR6:=Hq (show r=(some er,⟨ts5.map TyV.key,fl5⟩) from HR5.out)
    have hso:fqP (some er)=dqv er:=rfl
    obtain⟨x,hx⟩: ∃x,dqv er=x:=⟨_,rfl⟩
    rw [hso,hx]
    rw [hx] at hne
    have HX:=Hq hx
    clear hso hx HR5
    by_cases hlt:k2<t.ifs.length
    all_goals
     go_wp2_with fail
     go_ret
     rw [HR6.out]
     exact⟨ts5,v5,by rw [←HX.out];rfl,rfl,H5.out,HK5.out,F5.out⟩
   case none=>
    have hso:fqP none=⟨#[]⟩:=rfl
    rw [hso]
    clear hso
    by_cases hlt:k2<t.ifs.length
    ·obtain⟨y,hy⟩: ∃y,t.ifs[k2]?=some y:=⟨_,List.getElem?_eq_getElem hlt⟩
     have HYS:=Hq (HSM.out.2.2.2 y (List.mem_of_getElem? hy))
     have HR6:=Hq (show r=eq0 s c t (match bqd (aqM (rdD aqK (bql fs)) n (going++ [s.data.toList])) ⟨ts5.map TyV.key,fl5⟩ s y true with
      | (some e,σ1)=> (some e,σ1)
      | (none,σ1)=>bq1 (aqM (rdD aqK (bql fs)) n (going++ [s.data.toList])) s (t.ifs.drop (k2+1)) σ1) by
      rw [HR5.out,List.drop_eq_getElem_cons hlt,(List.getElem?_eq_some_iff.1 hy).2]
      rfl)
     obtain⟨A',cap',e',_,_,_,h5⟩:=CT5.out.ta.hi
     injection e' with e1 _ e3
     subst e1
     subst e3
     obtain⟨b,off,hBi,hbl,_,hc⟩:=h5 Om
     have ci:=hc k2 (.string y) (by rw [List.getElem?_map,hy];rfl)
     subst hBi
     clear hy h5 hc
     go_wp2_with (go_at_call 61;refine aqa ?_)
     refine aqb ?_
     refine(HAF.out fl5 ts5 v5 wr1 y true H5.out HK5.out CT5.out.bu HYS.out).mono ?_
     rintro e w6 ⟨ts6,v6,rfl,hts,hg6,hk6,hf6⟩
     obtain⟨⟨q6,σ6⟩,hq⟩: ∃q,bqd (aqM (rdD aqK (bql fs)) n (going++ [s.data.toList])) ⟨ts5.map TyV.key,fl5⟩ s y true=q:=⟨_,rfl⟩
     rw [hq] at hts hg6
     obtain⟨tsk,fl6⟩:=σ6
     simp only at hts hg6
     subst hts
     have HR7:=Hq (show r=eq0 s c t (oqv (aqM (rdD aqK (bql fs)) n (going++ [s.data.toList])) s (t.ifs.drop (k2+1)) q6 ⟨ts6.map TyV.key,fl6⟩) by
      rw [HR6.out,hq]
      cases q6<;>rfl)
     have H7:=Hq hg6
     have HK7:=Hq hk6
     have F7:=Hq (F5.out.trans hf6)
     have CT7:=Hq (CT5.out.rfr hf6)
     have HNS7:=Hq (eqK HNS5.out hq)
     rw [hq]
     simp only
     clear hg6 hk6 hf6 hq ci HR6
     go_wp2_with fail
     go_roundw
     case rel=>exact⟨k2+1,q6,ts6,v6,fl6,by omega,rfl,by go_num,H7,HK7,F7,CT7,HNS7,HR7⟩
     case measure=>simp [RowKit.intOf];omega
    obtain rfl:k2=t.ifs.length:=by omega
    have HR6:=Hq (show r=(none,eqY s c t ⟨ts5.map TyV.key,fl5⟩) by rw [HR5.out,List.drop_length];rfl)
    have hkl5:=HK5.out.len HKK.out.cnt
    simp only [List.length_map] at hkl5
    have c1':=H5.out.bx.cell 1 rfl
    have hl1:=H5.out.lt
    have hl2:=CT5.out.gt.lt
    have g0:=CT5.out.gt.cell 0 rfl
    have g1:=CT5.out.gt.cell 1 rfl
    have g2:=CT5.out.gt.cell 2 rfl
    have g4:=CT5.out.gt.cell 4 rfl
    have g5:=CT5.out.gt.cell 5 rfl
    have D1:=Hq ((Below.refl wr1.heap.size wr1).drew)
    have H6:=Hq (H5.out.below D1.out)
    have hB6:B≤wr1.heap.size:=H5.out.le
    have DA:=Hq (D1.out.alloc Nr (.cells #[.string t.name, .string t.sup, .int .i64 t.acc, .slice Bi t.ifs.length ji, .slice Bf t.flds.length jf, .slice Bm t.mths.length jm] 39))
    have H6a:=Hq (H5.out.below DA.out)
    have F6a:=Hq (F5.out.trans (RFr.of_below H5.out.le DA.out))
    have CT6a:=Hq (CT5.out.rfr (RFr.of_below (B:=B) H5.out.le DA.out))
    clear F5 CT5 HR5 hlt
    obtain⟨cs5,hcs5⟩: ∃u,LT.cls ⟨ts5.map TyV.key,fl5⟩=u:=⟨_,rfl⟩
    have hcl5:cs5.length≤100:=by rw [←hcs5];simp [LT.cls];omega
    rw [hcs5] at H6 H6a
    have HCS:=Hq hcs5
    clear hcs5 H5
    go_wp2_with fail
    go_cut [] (fun wc=>Hid (∃v8,RfG B L fs (ts5++ [t.tyv (.slice Bi t.ifs.length ji) (.slice Bf t.flds.length jf) (.slice Bm t.mths.length jm)]) cs5 v8 wc∧RFr B L v W v8 wc∧CtR L w2.heap.size w5.heap.size [.int .i64 c.minor, .int .i64 c.major, .slice Ap c.pool.length kp, .int .i64 c.acc, .int .i64 c.this, .int .i64 c.sup, .slice Ai c.ifs.length ki, .slice Ag c.flds.length kg, .slice Am c.mths.length km] [.string t.name, .string t.sup, .int .i64 t.acc, .slice Bi t.ifs.length ji, .slice Bf t.flds.length jf, .slice Bm t.mths.length jm] c t (.slice Ap c.pool.length kp) (.slice Ai c.ifs.length ki) (.slice Ag c.flds.length kg) (.slice Am c.mths.length km) (.slice Bi t.ifs.length ji) (.slice Bf t.flds.length jf) (.slice Bm t.mths.length jm) (going++ [s.data.toList]) (.slice (some ⟨gb,0,none⟩) (going.length+1) cb2) v8 wc))
    case first=>
     go_region_law (first
      | (refine aq6 rfl (.tmp 99) (.tmp 101) 31 rfl Tryz.underlying31 cqd rfl Om B rfl (H6.out.ht.1.alloc _) rfl rfl (aq3 _ _ _) Oc Om Mz Om Sd ?_
         intro g6 cap6 w6 ho6 hg6 hb6 hgg6
         have X6:=Hq (show Bx w6 L.r [v5 0,v5 1,v5 2] 82 from(hg6.block L.r H6a.out.lt (fun e=> (H6a.out.own 1 Om _ e.symm).2.2.1 rfl)).trans H6a.out.bx)
         have x1:=X6.out.cell 1 rfl
         have y1:=X6.out.frozen 1))
     all_goals
      go_wp2_with fail
      go_meet
      have GR:=H6a.out.grow 1 Om (n:=ts5.length+1) (c:=cap6) hb6 hg6 hgg6
      have H8:=H6a.out.addT (t:=t.tyv (.slice Bi t.ifs.length ji) (.slice Bf t.flds.length jf) (.slice Bm t.mths.length jm)) (aqF ho6 rfl (by rw [hqz])) hb6 hg6 hgg6 (nqR CT6a.out.ta)
      have F8:=F6a.out.trans GR.1
      have CT8:=CT6a.out.rfr GR.1
      exact Hq ⟨_,H8,F8,CT8⟩
    case rest=>
    clear H6 H6a F6a CT6a D1 DA c1' g0 g1 g2 g3 g4 g5 hl1 hl2
    obtain⟨v8,h8,f8,ct8⟩:=hcut.out
    have H8:=Hq h8
    have F8:=Hq f8
    have CT8:=Hq ct8
    clear h8 f8 ct8 hcut
    have c2':=H8.out.bx.cell 2 rfl
    have D1:=Hq ((Below.refl wc.heap.size wc).drew)
    have H9:=Hq (H8.out.below D1.out)
    have hB9:B≤wc.heap.size:=H8.out.le
    have DA:=Hq (D1.out.alloc Nr (.cells #[.int .i64 c.minor, .int .i64 c.major, .slice Ap c.pool.length kp, .int .i64 c.acc, .int .i64 c.this, .int .i64 c.sup, .slice Ai c.ifs.length ki, .slice Ag c.flds.length kg, .slice Am c.mths.length km] 58))
    have H9a:=Hq (H8.out.below DA.out)
    have F9a:=Hq (F8.out.trans (RFr.of_below H8.out.le DA.out))
    have CA9:=Hq (CT8.out.ca.keep (aqC.of_below DA.out))
    have hl1:=H8.out.lt
    have hl2:=CT8.out.gc.lt
    obtain⟨k0,k1,k2,k3,k4,k5,k6,k7,k8⟩:=CT8.out.gc.nine
    go_wp2_with fail
    go_region_law (first
     | (refine aq6 rfl (.tmp 109) (.tmp 111) 80 rfl Tryz.underlying80 gqB rfl Om B rfl (H9a.out.co) rfl rfl (aq3 _ _ _) Oc Om Mz Om Sd ?_
        intro g7 cap7 wz ho7 hg7 hb7 hgg7
        have X9:=Hq (show Bx wz L.r [v8 0,v8 1,v8 2] 82 from(hg7.block L.r H9a.out.lt (fun e=> (H9a.out.own 2 Om _ e.symm).2.2.1 rfl)).trans H9a.out.bx)
        have x1:=X9.out.cell 2 rfl
        have y1:=X9.out.frozen 2))
    all_goals
     have GR:=H9a.out.grow 2 Om (n:=cs5.length+1) (c:=cap7) hb7 hg7 hgg7
     have Hz:=Hq (H9a.out.addC (q:=(c, .slice Ap c.pool.length kp, .slice Ai c.ifs.length ki, .slice Ag c.flds.length kg, .slice Am c.mths.length km)) (aqF ho7 rfl rfl) hb7 hg7 hgg7 CA9.out)
     have Fz:=Hq (F9a.out.trans GR.1)
     go_wp2_with fail
     go_ret
     have hnames:(ts5++ [t.tyv (.slice Bi t.ifs.length ji) (.slice Bf t.flds.length jf) (.slice Bm t.mths.length jm)]).map TyV.name=ts5.map TyV.name++ [s.data.toList]:=by simp [cqO.tyv,HNM.out]
     have hcls:cs5++ [c]=(eqY s c t ⟨ts5.map TyV.key,fl5⟩).cls:=by
      rw [mq6 (by
       show s.data.toList∉(ts5.map TyV.key).map (·.1)
       rw [List.map_map]
       exact HNS5.out) HNM.out,HCS.out]
     rw [HR6.out]
     refine⟨ts5++ [t.tyv (.slice Bi t.ifs.length ji) (.slice Bf t.flds.length jf) (.slice Bm t.mths.length jm)],_,rfl,by simp [eqY,cqO.tyv,TyV.key,cqO.key], ?_, ?_,Fz.out⟩
     ·show RfG B L fs _ (eqY s c t ⟨ts5.map TyV.key,fl5⟩).cls _ _
      rw [←hcls]
      exact Hz.out
     rw [hnames]
     exact HK5.out.snoc HNS5.out HDN.out
theorem hq6 (fs:List (List UInt8×List UInt8)) (dn:List (List UInt8)) (K:LdK aqK (bql fs) dn) (hfl:fs.length≤64): ∀n,jqI fs dn n
 |0=>fun _ _ _ _ _ _ _ _ _ _ _ _ _ h _=>absurd h (Nat.not_lt_zero _)
 |n+1=>kqJ fs dn K hfl n (hq6 fs dn K hfl n)
set_option maxHeartbeats 1000000
def gqh (fs:List (List UInt8×List UInt8)) (s l:List UInt8):Int:=if aq1 s=false∨gqr s=true then 21 else if 65536<l.length then 2 else if s∈fs.map (·.1) then 24 else if 64≤fs.length then 42 else 0
def lq9 (fs:List (List UInt8×List UInt8)) (s l:List UInt8):List (List UInt8×List UInt8):=if gqh fs s l=0 then fs++ [(s,l)] else fs
theorem RfG.find {B:Nat} {L:eqk} {fs:List (List UInt8×List UInt8)} {ts:List TyV} {cs:List aqc} {v:Nat→Value} {W:World} (h:RfG B L fs ts cs v W) (hf:fs.length≤64): ∃Af cf,v 0= .slice Af fs.length cf∧fs.length≤cf∧ ∀(s:ByteArray) (W':World),Below W.heap.size W W'→
  Calls Tryz.prog 36 #[.pointer (some ⟨L.r,0,none⟩), .string s] W' fun e w'=>e= .returned (.int .i64 (cq9 (fs.map (·.1)) s.data.toList))∧W'=w':=by
 obtain⟨qs,f1,f2,f3⟩:=h.hf
 obtain⟨Af,cf,hvf⟩:=aq7 f2
 have hfq:qs.length=fs.length:=by rw [←f1,List.length_map]
 have c0:=h.bx.cell 0 rfl
 have hlt:=h.lt
 rw [hvf] at c0 f2
 have hcf:fs.length≤cf:=by
  obtain⟨_,_,e,h,_⟩:=aqs f2 (fun _=>True) Om Om (fun _ _=>trivial)
  cases e
  exact h
 refine⟨Af,cf,hvf,hcf,fun s W' hb=> ?_⟩
 have:=hqA L.r cf Af (fs.map (·.1)) s W' (by rw [List.length_map];exact(hb.cell (p:=⟨L.r,0,none⟩) hlt).trans c0) (by rw [List.length_map];exact hcf) (by rw [List.length_map];omega) (fun j t ht=>by
  rw [←f1,List.map_map,List.getElem?_map] at ht
  obtain⟨u,hu,rfl⟩:=Option.map_eq_some_iff.1 ht
  have hjl:=(List.getElem?_eq_some_iff.1 hu).1
  have hx:=jqK (fun q:List UInt8×Value×List UInt8=>Value.string ⟨q.1.toArray⟩) (fun q=>q.2.1) qs j
  rw [hu] at hx
  rcases f2.2 with⟨_,h0⟩ | ⟨g,_,_,e,hg2⟩
  ·omega
  injection e with e1 e2 e3
  subst e1
  have hgl:=(f2.lt g rfl).2
  exact⟨g,rfl,(hb.cell (p:=⟨g,j*2,none⟩) hgl).trans ((f2.cellAt (j*2) Om).trans hx.1)⟩)
 rw [ByteArray.toList_eq] at this
 exact this
theorem jqd:(Tryz.prog.info? 86).map (fun i=> (i.zero,i.size,i.bytes))=some (some (.agg #[.string ⟨#[]⟩, .slice none 0 0]),2,40):=by kernel_rfl
theorem jqe {B:Nat} {L:eqk} {fs:List (List UInt8×List UInt8)} {ts:List TyV} {cs:List aqc} {v:Nat→Value} {W:World} (h:RfG B L fs ts cs v W) (s:ByteArray) (A:Option Addr) (len cap:Nat) (l:List UInt8) (hs:s.size≤1000000) (hr:RdB W A len cap l) (hl:len≤1000000) (hf:fs.length≤64):
  Calls Tryz.prog 22 #[.pointer (some ⟨L.r,0,none⟩), .string s, .slice A len cap] W fun e W'=>e= .returned (.int .i64 (gqh fs s.data.toList l))∧ ∃v',RfG B L (lq9 fs s.data.toList l) ts cs v' W'∧RFr B L v W v' W':=by
 obtain⟨Af,cf,hv0,hcf,hfind⟩:=h.find hf
 have hlen:=hr.hlen
 subst hlen
 obtain⟨cb,hcb⟩: ∃b,aq1 s.data.toList=b:=⟨_,rfl⟩
 obtain⟨ob,hob⟩: ∃b,gqr s.data.toList=b:=⟨_,rfl⟩
 have HE:=Hq (show gqh fs s.data.toList l=if cb=false∨ob=true then 21 else if 65536<l.length then 2 else if s.data.toList∈fs.map (·.1) then 24 else if 64≤fs.length then 42 else 0 by unfold gqh;rw [hcb,hob])
 have H:=Hq h
 have HFD:=Hq hfind
 have HC:=Hq hcb
 have HO:=Hq hob
 have HR:=Hq hr
 have same: ∀(E:Int) (W':World),gqh fs s.data.toList l=E→E≠0→Below W.heap.size W W'→Ending.returned (.int .i64 E)= .returned (.int .i64 (gqh fs s.data.toList l))∧ ∃v',RfG B L (lq9 fs s.data.toList l) ts cs v' W'∧RFr B L v W v' W':=fun E W' he hn hb=>by
  unfold lq9
  rw [he,if_neg hn]
  exact⟨rfl,v,H.out.below hb,RFr.of_below H.out.le hb⟩
 have HS:=Hq same
 have c0:=h.bx.cell 0 rfl
 rw [hv0] at c0
 have hlt:=h.lt
 have HV0:=Hq hv0
 clear h hfind hcb hob hr same hv0
 go_enter Tryz.func22,Tryz.ntmps22
 go_wp2_with (first
  | (go_at_call 34;refine(eq5 s W hs).mono ?_;rw [HC.out];rintro e w1 ⟨rfl,hb1⟩;have B1:=Hq hb1;clear hb1)
  | (go_at_call 35;refine(mq1 s _ Om).mono ?_;rw [HO.out];rintro e w2 ⟨rfl,rfl⟩;refine aqa ?_))
 refine aqb ?_
 have c1:=(B1.out.cell (p:=⟨L.r,0,none⟩) hlt).trans c0
 by_cases hbad:cb=false∨ob=true
 ·have he:=HE.out.trans (if_pos hbad)
  have HS2:=Hq (HS.out _ _ he Dd9 B1.out)
  clear he
  cases cb<;>cases ob
  ·go_wp2_with fail
   go_ret
   exact HS2.out
  ·go_wp2_with fail
   go_ret
   exact HS2.out
  ·simp at hbad
  go_wp2_with fail
  go_ret
  exact HS2.out
 obtain⟨rfl,rfl⟩:cb=true∧ob=false:=by
  cases cb<;>cases ob<;>simp_all
 have HE2:=Hq (HE.out.trans (if_neg hbad))
 clear hbad HE
 by_cases hlong:65536<l.length
 ·have HS2:=Hq (HS.out _ _ (HE2.out.trans (if_pos Om)) Dd9 B1.out)
  have hd:decide ((65536:Int) < (l.length:Int))=true:=by simp;omega
  go_wp2_with fail
  go_ret
  exact HS2.out
 have hd:decide ((65536:Int) < (l.length:Int))=false:=by simp;omega
 have HE3:=Hq (HE2.out.trans (if_neg Om))
 have HF2:=Hq (HFD.out s _ B1.out)
 have hl6:l.length≤65536:=by omega
 clear HE2 hlong
 by_cases hin:s.data.toList∈fs.map (·.1)
 ·obtain⟨k,hk⟩:=gq6 hin
  rw [hk] at HF2
  have HS2:=Hq (HS.out _ _ (HE3.out.trans (if_pos hin)) Dd9 B1.out)
  clear hk hin
  go_wp2_with (go_at_call 36;refine HF2.out.mono ?_;rintro e w1 ⟨rfl,rfl⟩)
  go_ret
  exact HS2.out
 rw [fq7 hin] at HF2
 have HE4:=Hq (HE3.out.trans (if_neg hin))
 clear HE3 hin
 by_cases hfull:64≤fs.length
 ·have HS2:=Hq (HS.out _ _ (HE4.out.trans (if_pos hfull)) Dd9 B1.out)
  have hd2:decide ((64:Int)≤(fs.length:Int))=true:=by simp;omega
  go_wp2_with (go_at_call 36;refine HF2.out.mono ?_;rintro e w1 ⟨rfl,rfl⟩)
  go_ret
  exact HS2.out
 have hd2:decide ((64:Int)≤(fs.length:Int))=false:=by simp;omega
 have HE5:=Hq (HE4.out.trans (if_neg hfull))
 clear HE4 HS
 have H1:=Hq (H.out.below B1.out)
 have R1:=Hq (HR.out.below B1.out)
 have F1:=Hq (RFr.of_below (L:=L) (v:=v) H.out.le B1.out)
 have hB1:B≤w2.heap.size:=H1.out.le
 have D1:=Hq ((Below.refl w2.heap.size w2).drew)
 have SR:=Hq (R1.out.below D1.out).src
 have LR:=Hq (show(l.map bV).length=l.length*1 by rw [List.length_map];omega)
 have hl1:=H1.out.lt
 go_wp2_with (go_at_call 36;refine HF2.out.mono ?_;rintro e w3 ⟨rfl,rfl⟩)
 go_region_law (first
  | (refine aq6 rfl (.tmp 35) (.tmp 40) 79 rfl Tryz.underlying79 jqd rfl Om B rfl (HFO.out) rfl rfl (aqm _ _ _ _ Sp) Oc Om Mz Om Sd ?_
     intro g8 cap8 w8 ho8 hg8 hb8 hgg8
     have X8:=Hq (show Bx w8 L.r [v 0,v 1,v 2] 82 from(hg8.block L.r HA.out.lt (fun e=> (HA.out.own 0 Om _ (by rw [HV0.out];exact e.symm)).2.2.1 rfl)).trans HA.out.bx)
     have x0:=X8.out.cell 0 rfl
     have y0:=X8.out.frozen 0)
  | (refine fqk rfl (.const (.slice none 0 0)) (.tmp 37) 27 rfl Tryz.underlying27 bq5 rfl Om w2.heap.size rfl (World.ownsRow_nil _ _ _ _) rfl LR.out SR.out (fun u hu=>by obtain⟨_,_,rfl⟩:=List.mem_map.1 hu;rfl) Mz Om Nr ?_
     intro v7 w7 ho7 hg7 hb7
     have ho8:=aqF ho7 (Nat.zero_add _) (List.nil_append _)
     obtain⟨A7,k7,rfl,hrd7,hA7⟩:=gq0 ho8
     have hlt7:=ho8.lt
     have HD7:=Hq (show gqf w7 (L.ro v) (some l) (some (.slice A7 l.length k7)) from⟨A7,k7,rfl,hrd7,fun a ha=> ⟨(hlt7 _ (hA7 a ha)).2,H1.out.fresh _ (hlt7 _ (hA7 a ha)).1⟩,by omega⟩)
     have D7:=Hq (D1.out.trans hb7)
     have DA:=Hq (D7.out.alloc D7.out.size (.cells #[.string s, .slice A7 l.length k7] 86))
     have HA:=Hq (H1.out.below DA.out)
     obtain⟨xs,hxs,hfo⟩: ∃xs,(HA.out.hf.choose.flatMap fun q=> [Value.string ⟨q.1.toArray⟩,q.2.1])=xs∧(w7.alloc (.cells #[.string s, .slice A7 l.length k7] 86)).ownsRow B 86 2 (v 0) fs.length xs:=⟨_,rfl,HA.out.fo⟩
     rw [HV0.out] at hfo
     have HFO:=Hq hfo
     have HXS:=Hq hxs
     clear hfo hxs
     have FA:=Hq (F1.out.trans (RFr.of_below H1.out.le DA.out))
     have c7:=(D7.out.cell (p:=⟨L.r,0,none⟩) hl1).trans c1
     have hz7:=D7.out.size
     have hl7:L.r<w7.heap.size:=by omega
     clear ho7 hg7 hb7 ho8 hrd7 hA7 hlt7))
 all_goals
  go_wp2_with fail
  go_ret
  rw [←HV0.out] at hg8 hgg8
  have GR:=HA.out.grow 0 Om (n:=fs.length+1) (c:=cap8) hb8 hg8 hgg8
  have Hz:=HA.out.addF (nm:=s.data.toList) (l:=l) (x:= .slice A7 l.length k7) (aqF ho8 rfl (by rw [HXS.out,eqL])) hb8 hg8 hgg8 (HD7.out.keep (aqC.of_below (Rf9.alloc Nr _)) fun _ _ h=>h)
  have Fz:=FA.out.trans GR.1
  unfold lq9
  rw [HE5.out,if_pos rfl]
  exact⟨rfl,_,Hz,Fz⟩
theorem nqx (fs:List (List UInt8×List UInt8)) (dn:List (List UInt8)) (K:LdK aqK (bql fs) dn) (hfl:fs.length≤64) (B:Nat) (L:eqk) (files:List UInt8→Option aqc) (ts:List TyV) (v:Nat→Value) (W:World) (s:ByteArray)
  (h:RfG B L fs ts (LT.cls ⟨ts.map TyV.key,files⟩) v W) (hk:fqc dn (ts.map TyV.name)) (hs:s.size≤1048576):
  Calls Tryz.prog 21 #[.pointer (some ⟨L.r,0,none⟩), .string s] W (lqQ B L fs dn v W (aqM (rdD aqK (bql fs)) 65 [] ⟨ts.map TyV.key,files⟩ s)):=by
 have HL:=Hq (hq6 fs dn K hfl 65 B L files ts v W [] (.slice none 0 0) s h hk (cqY _ _ _) hs (by have:=List.length_filter_le (fun x=>decide (x∉([]:List (List UInt8)))) dn;have:=K.cnt;omega) Sp)
 obtain⟨r,hr⟩: ∃r,aqM (rdD aqK (bql fs)) 65 [] ⟨ts.map TyV.key,files⟩ s=r:=⟨_,rfl⟩
 rw [hr] at HL⊢
 clear h hk hr K
 go_enter Tryz.func21,Tryz.ntmps21
 go_wp2_with (go_at_call 33;refine aqa ?_)
 refine aqb ?_
 refine HL.out.mono ?_
 rintro e w1 ⟨ts',v',rfl,hq⟩
 have HQ:=Hq hq
 clear hq
 go_wp2_with fail
 go_ret
 exact⟨ts',v',rfl,HQ.out⟩
end Go.Proofs.YtdbniocnjhfhdaaGreatDoor
