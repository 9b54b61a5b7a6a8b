/- Part 39 of what the laws rest on: walks. Conditions: those that each theorem names. -/
import Derived.Test.YtdbniocnjhfhdaaGreatDoorB38
import Derived.Lib.SmallJoins
set_option linter.unusedSimpArgs false
set_option linter.unusedVariables false
set_option maxRecDepth 100000
set_option maxHeartbeats 2000000
namespace Go.Proofs.YtdbniocnjhfhdaaGreatDoor
open Go Go.RowKit Lib
theorem oqA {B:Nat} {L:bqp} {nd:Nat} {defs:List UInt8→Option (List UInt8)} {files:List UInt8→Option aqc} {ks going:List (List UInt8)} {ts:List TyV} {v:Value} {W:World} (h:LdG B L nd defs files ks going ts v W) (s:ByteArray) (hs:s.size≤maxLen):
  Calls Tryz.prog 24 #[.pointer (some ⟨L.lb,0,none⟩), .string s] W fun e w'=> ∃p i f m,e= .returned (.tuple #[bqb ((files s.data.toList).getD noC) p i f m, .bool (files s.data.toList).isSome])∧aqy w' (fun g=>W.heap.size≤g) ((files s.data.toList).getD noC) p i f m∧Below W.heap.size W w':=by
 rcases hf:files s.data.toList with _|c
 ·refine(mqp h s hs hf).mono ?_
  rintro e w' ⟨rfl,hb⟩
  exact⟨_,_,_,_,rfl,nqS _ _,hb⟩
 refine(nqJ h s hs hf).mono ?_
 rintro e w' ⟨p,i,f,m,rfl,hc,hb⟩
 exact⟨p,i,f,m,rfl,hc,hb⟩
def TyV.typ (t:TyV):cqO:=⟨⟨t.name.toArray⟩,⟨t.sup.toArray⟩,t.acc,t.ifl.map fun s=> ⟨s.toArray⟩,t.fl,t.ml⟩
theorem nq1 {W:World} {ok:Nat→Prop} {t:TyV} (h:iqI W ok t):dqX W ok t.typ t.ifs t.flds t.mths:=by
 refine⟨?_,h.2.1,h.2.2⟩
 have:=h.1
 unfold TyV.ifCells at this
 show bqm W ok 1 (t.ifl.map fun s=> (⟨s.toArray⟩:ByteArray)).length ((t.ifl.map fun s=> (⟨s.toArray⟩:ByteArray)).map .string) t.ifs
 rw [List.length_map,List.map_map]
 exact this
theorem oqB {t u:TyV} (h:t.key=u.key):t.typ=u.typ:=by
 unfold TyV.key at h
 injection h with h1 h
 injection h with h2 h
 injection h with h3 h
 injection h with h4 h
 injection h with h5 h6
 unfold TyV.typ
 rw [h1,h2,h3,h4,h5,h6]
theorem mqs {α:Type} (f:α→List Value) (s:Nat) (hs: ∀x,(f x).length=s): ∀(l:List α) (k:Nat) (x:α),l[k]?=some x→ ∀q,q<s→(l.flatMap f)[k*s+q]?=(f x)[q]?
 | [],k,x,h,q,hq=>by simp at h
 |y::l,0,x,h,q,hq=>by
  simp at h
  subst h
  rw [List.flatMap_cons,List.getElem?_append_left (by rw [hs];omega)]
  congr 1
  omega
 |y::l,k+1,x,h,q,hq=>by
  rw [List.flatMap_cons,List.getElem?_append_right (by rw [hs,Nat.succ_mul];omega),hs,show(k+1)*s+q - s=k*s+q by rw [Nat.succ_mul];omega]
  exact mqs f s hs l k x (by simpa using h) q hq
theorem RfG.clsRow {B:Nat} {L:eqk} {fs:List (List UInt8×List UInt8)} {ts:List TyV} {cs:List aqc} {v:Nat→Value} {W:World} (h:RfG B L fs ts cs v W) (h0:0<cs.length): ∃g cap,v 2= .slice (some ⟨g,0,none⟩) cs.length cap∧cs.length≤cap∧g<W.heap.size∧ ∀k c,cs[k]?=some c→ ∃p i f m,aqy W (L.ro v) c p i f m∧ ∀q,q<9→W.cell? ⟨g,k*9+q,none⟩=(c.cells p i f m)[q]?:=by
 obtain⟨qs,c1,c2,c3⟩:=h.hc
 have hql:qs.length=cs.length:=by rw [←c1,List.length_map]
 rcases id c2.2 with⟨_,h1⟩ | ⟨g,cap,cur,hv,hb,hgb,hnc,hcm,hcs,hx⟩
 ·omega
 rw [hv] at c2
 refine⟨g,cap,hv,hnc,(c2.lt g rfl).2,fun k c hk=> ?_⟩
 have hl:k<cs.length:=(List.getElem?_eq_some_iff.1 hk).1
 obtain⟨q,hq,rfl⟩: ∃q,qs[k]?=some q∧q.1=c:=by
  rw [←c1,List.getElem?_map] at hk
  exact Option.map_eq_some_iff.1 hk
 exact⟨_,_,_,_,c3 q (List.mem_of_getElem? hq),fun j hj=> (c2.cellAt (k*9+j) Om).trans (mqs ClQ.cells 9 (fun _=>rfl) qs k q hq j hj)⟩
theorem gqi {P:Program} (w:World) (g off:Nat) (ty:TypeId) (cs:List Value) (d:TypeDesc) (hc: ∀j v,cs[j]?=some v→w.cell? ⟨g,off+j,none⟩=some v)
  (hu:P.underlying ty=some d) (hd:(match d with| .struct _| .array _ _=>true|_=>false)=true) (hi:(P.info? ty).map (·.size)=some cs.length):
  (loadVar ty ⟨g,off,none⟩).run P w= .ok (.agg cs.toArray) w:=by
 have hl:(loadCells ⟨g,off,none⟩ cs.length).run P w= .ok cs.toArray w:=
  run_loadCells_list (P:=P) w ⟨g,off,none⟩ cs (fun j v hv=>by rw [bqB];exact hc j v hv)
 cases hq:P.info? ty with
 |none=>simp [hq] at hi
 |some i=>
  have hs:i.size=cs.length:=by simpa [hq] using hi
  have hagg:(isAgg ty).run P w= .ok true w:=by
   unfold isAgg
   rw [Sem.run_bind,run_underlying hu w]
   cases d<;>simp_all
  simp [loadVar,Sem.run_bind,hagg,sizeOf,typeInfo,hq,hs,hl]
theorem jqn {P:Program} {ops:Array Oper} {C:World→Prop} {Q:Act→Prop} {o:Oper} {rest:List Oper} {a:Act} (hg:o.guard=none) (ty:TypeId) (x:Operand) (ho:o.op= .load ty x) (g off:Nat) (hx:a.eval x= .pointer (some ⟨g,off,none⟩)) (cs:List Value) (d:TypeDesc)
  (hc: ∀w,C w→ ∀j v,cs[j]?=some v→w.cell? ⟨g,off+j,none⟩=some v) (hu:P.underlying ty=some d) (hd:(match d with| .struct _| .array _ _=>true|_=>false)=true) (hi:(P.info? ty).map (·.size)=some cs.length)
  (h:wpQuiet P ops C Q rest (a.put o.dst (.agg cs.toArray))):wpQuiet P ops C Q (o::rest) a:=by
 unfold wpQuiet
 rw [if_pos (by unfold Region.wanted;rw [hg])]
 refine⟨.agg cs.toArray,fun w hw=> ?_,h⟩
 have hr:=gqi (P:=P) w g off ty cs d (hc w hw) hu hd hi
 unfold Oper.quietAt execOp
 simp only [ho,hx,Instr.loadAt,Instr.sureAddr,Sem.run_bind,Sem.run_pure,Result.andThen_ok,hr]
 exact⟨rfl,rfl⟩
theorem iqi {B lb r:Nat} {σ:St} {X:List Nat} {W:World} (h:Duo B lb r σ σ X W) (hok:FOk ⟨σ.ts,σ.F⟩) (hnl: ∀t∈σ.ts,t.1.length≤1000000):
  Calls Tryz.prog 23 #[.pointer (some ⟨lb,0,none⟩), .pointer (some ⟨r,0,none⟩)] W fun e W'=>e= .returned (.bool true)∧Below W.heap.size W W':=by
 obtain⟨Lx,vx,L,v,rfl,rfl,k1,k2,_,_,_⟩:=h.all
 obtain⟨ts,a1,a2,a3⟩:=k1.all
 obtain⟨fs,us,b1,b2,b3,b4,b5⟩:=k2.all
 have hl:=a3.len (by rw [k1.len];exact k1.le)
 rw [List.length_map] at hl
 have hlt:ts.length=σ.ts.length:=by rw [←a1,List.length_map]
 have hlu:us.length=σ.ts.length:=by rw [←b1,List.length_map]
 obtain⟨n,hn⟩: ∃n,σ.ts.length=n:=⟨_,rfl⟩
 rw [hn] at hlt hlu
 have HLT:=Hq (eq9 a2 Om Om)
 obtain⟨g2,cap2,hv1,hcap2,hg2,hcell2⟩:=b2.rows Om
 have HA2:=Hq a2
 have HB2:=Hq b2
 have HC2:=Hq hcell2
 have HN:=Hq hn
 have HOK:=Hq hok
 have HNL:=Hq hnl
 have HA1:=Hq a1
 have HB1:=Hq b1
 have r1:=b2.bx.cell 1 rfl
 rw [hv1,hlu] at r1
 have hLr:=b2.lt
 obtain⟨g3,cap3,hv2,hcap3,hg3,hcell3⟩:=b2.clsRow (by simp [LT.cls];omega)
 have HC3:=Hq hcell3
 have r2:=b2.bx.cell 2 rfl
 have hcl:(LT.cls ⟨σ.ts,σ.F⟩).length=n:=by simp [LT.cls,hn]
 rw [hv2,hcl] at r2
 rw [hcl] at hcap3
 have hn90:n≤90:=by omega
 have hn0:0<n:=by omega
 rw [hlu] at hcap2
 rw [hlt] at HLT
 clear h k1 k2 a1 a2 a3 b1 b2 b3 b4 b5 hcell2 hcell3 hcl hv2 hn hok hnl hv1
 go_enter Tryz.func23,Tryz.ntmps23
 go_wp2_with (go_at_call 14;refine aqa ?_)
 refine aqb ?_
 refine HLT.out.mono ?_
 clear HLT
 rintro e w1 ⟨ov,ts',rfl,ho,hk,hif,hb1⟩
 obtain⟨g1,cap1,rfl,hcap1,hg1,hcell1⟩: ∃g cap,ov= .slice (some ⟨g,0,none⟩) n cap∧n≤cap∧g<w1.heap.size∧ ∀j t,ts'[j]?=some t→ ∀q,q<6→w1.cell? ⟨g,j*6+q,none⟩=t.cells[q]?:=by
  have hl':ts'.length=n:=by rw [←hlt, ←List.length_map (f:=TyV.key),hk,List.length_map]
  rcases id ho.2 with⟨_,h1⟩ | ⟨g,cap,cur,rfl,hb,hg,hnc,hcm,hcs,hx⟩
  ·omega
  refine⟨g,cap,rfl,hnc,(ho.lt g rfl).2,fun j t ht q hq=> ?_⟩
  have hl2:j<ts'.length:=(List.getElem?_eq_some_iff.1 ht).1
  exact(ho.cellAt (j*6+q) Om).trans (cqI ts' j t ht q hq)
 have HC1:=Hq hcell1
 have HK:=Hq hk
 have HIF:=Hq hif
 have B1:=Hq hb1
 have hz1:=hb1.size
 have r1':=(hb1.cell (p:=⟨L.r,1,none⟩) hLr).trans r1
 have HR2:=Hq ((hb1.cell (p:=⟨L.r,2,none⟩) hLr).trans r2)
 have r2':=(hb1.cell (p:=⟨L.r,2,none⟩) hLr).trans r2
 clear ho hk hif hb1 hcell1 r1 r2
 go_wp2_with fail
 go_loopw [6] (fun i wr=> ∃k:Nat,k≤n∧i= .int .i64 k∧Hid (Below w1.heap.size w1 wr)) (fun i _=>n - (RowKit.intOf i).toNat)
 case atStart=>exact⟨0,by omega,rfl,Hq Rf9⟩
 case round=>
  obtain⟨k,hkn,rfl,HBr⟩:=hrel
  by_cases hltk:k<n
  ·obtain⟨t,ht⟩: ∃t,ts'[k]?=some t:=⟨_,List.getElem?_eq_getElem (by rw [←List.length_map (f:=TyV.key),HK.out,List.length_map];omega)⟩
   obtain⟨u,hu⟩: ∃u,us[k]?=some u:=⟨_,List.getElem?_eq_getElem Om⟩
   have hkt:t.key=u.key:=by
    have e1:(ts'.map TyV.key)[k]?=some t.key:=by rw [List.getElem?_map,ht];rfl
    have e2:(us.map TyV.key)[k]?=some u.key:=by rw [List.getElem?_map,hu];rfl
    rw [HK.out,HA1.out, ←HB1.out,e2] at e1
    injection e1 with e1
    exact e1.symm
   have hku:σ.ts[k]?=some u.key:=by rw [←HB1.out,List.getElem?_map,hu];rfl
   have hsl:t.name.length≤1000000:=by
    have:=HNL.out u.key (List.mem_of_getElem? hku)
    rw [←hkt] at this
    exact this
   have HOB:=Hq (show(σ.F t.name).isSome=decide (26≤k) by
    have:=HOK.out.2 k u.key hku
    rw [←hkt] at this
    exact this)
   have hbr:=HBr.out
   have hzr:=hbr.size
   have HRT:=Hq (nq1 ((HIF.out t (List.mem_of_getElem? ht)).1.keep (aqC.of_below hbr) fun _ _ h=>h))
   have HRU:=Hq (nq1 ((HB2.out.ht.2 u (List.mem_of_getElem? hu)).keep (aqC.of_below (B1.out.trans (hbr.mono hz1))) fun _ _ h=>h))
   have p:=fun q (hq:q<6)=> (hbr.cell (p:=⟨g1,k*6+q,none⟩) hg1).trans (HC1.out k t ht q hq)
   have q:=fun q (hq:q<6)=> ((hbr.mono hz1).cell (p:=⟨g2,k*6+q,none⟩) hg2).trans ((B1.out.cell (p:=⟨g2,k*6+q,none⟩) hg2).trans (HC2.out k u hu q hq))
   have hkt2:=oqB hkt
   rw [←hkt2] at HRU
   obtain⟨Ta,ta,e1,_⟩:=aqd HRT.out.hi
   obtain⟨Tb,tb,e2,_⟩:=aqd HRT.out.hf
   obtain⟨Tc,tc,e3,_⟩:=aqd HRT.out.hm
   obtain⟨Ua,ua,e4,_⟩:=aqd HRU.out.hi
   obtain⟨Ub,ub,e5,_⟩:=aqd HRU.out.hf
   obtain⟨Uc,uc,e6,_⟩:=aqd HRU.out.hm
   obtain⟨T,hT⟩: ∃T,t.typ=T:=⟨_,rfl⟩
   have p0:wr.cell? ⟨g1,k*6,none⟩=some (.string t.typ.name):=p 0 Om
   have q0:wr.cell? ⟨g2,k*6,none⟩=some (.string u.typ.name):=q 0 Om
   have p1:wr.cell? ⟨g1,k*6+1,none⟩=some (.string t.typ.sup):=p 1 Om
   have q1:wr.cell? ⟨g2,k*6+1,none⟩=some (.string u.typ.sup):=q 1 Om
   have p2:wr.cell? ⟨g1,k*6+2,none⟩=some (.int .i64 t.typ.acc):=p 2 Om
   have q2:wr.cell? ⟨g2,k*6+2,none⟩=some (.int .i64 u.typ.acc):=q 2 Om
   have p3:wr.cell? ⟨g1,k*6+3,none⟩=some t.ifs:=p 3 Om
   have q3:wr.cell? ⟨g2,k*6+3,none⟩=some u.ifs:=q 3 Om
   have p4:wr.cell? ⟨g1,k*6+4,none⟩=some t.flds:=p 4 Om
   have q4:wr.cell? ⟨g2,k*6+4,none⟩=some u.flds:=q 4 Om
   have p5:wr.cell? ⟨g1,k*6+5,none⟩=some t.mths:=p 5 Om
   have q5:wr.cell? ⟨g2,k*6+5,none⟩=some u.mths:=q 5 Om
   rw [←hkt2] at q0 q1 q2
   rw [e1] at p3
   rw [e2] at p4
   rw [e3] at p5
   rw [e4] at q3
   rw [e5] at q4
   rw [e6] at q5
   rw [e1,e2,e3] at HRT
   rw [e4,e5,e6] at HRU
   have hTn:T.name.data.toList=t.name:=by rw [←hT];rfl
   have hTs:T.name.size≤1000000:=by rw [←hT];exact hsl
   have HTN:=Hq hTn
   have hLr1:L.r<w1.heap.size:=by omega
   have s1:=(hbr.cell (p:=⟨L.r,1,none⟩) hLr1).trans r1'
   have s2:=(hbr.cell (p:=⟨L.r,2,none⟩) hLr1).trans r2'
   have HLG:=Hq (HA2.out.below (B1.out.trans (hbr.mono hz1)))
   have HCK:=Hq (HC3.out k ((σ.F t.name).getD noC) (by
    unfold LT.cls
    rw [List.getElem?_map,hku]
    show some ((σ.F u.key.1).getD noC)=_
    rw [←hkt]
    rfl))
   have DN:=Hq (below_drewN (Below.refl wr.heap.size wr) 1)
   simp only [hT] at p0 p1 p2 q0 q1 q2 HRT HRU p3 p4 p5 q3 q4 q5
   have HS:=Hq (mqr T _ _ _ _ _ _ _ _ (wr.drewN 1) (HRT.out.keep (aqC.of_below DN.out)) (HRU.out.keep (aqC.of_below DN.out)))
   clear p q hkt hku hkt2 e1 e2 e3 e4 e5 e6 hT hsl hTn ht hu r1' r2'
   go_wp2_with fail
   refine bqW 11 Kq9 Kq9 ?_
   simp only [List.take_succ_cons,List.take_zero,List.drop_succ_cons,List.drop_zero]
   repeat go_big_quiet_step (fail)
   refine wpQuiet_nil ?_
   go_wp2_with (go_at_call 37;refine aqa ?_)
   refine aqb ?_
   refine HS.out.mono ?_
   rintro e w2 ⟨rfl,hb2⟩
   have D2:=Hq (DN.out.trans (hb2.mono DN.out.size))
   have hz2:=D2.out.size
   have pn:=(D2.out.cell (p:=⟨g1,k*6,none⟩) (show g1<wr.heap.size by omega)).trans p0
   have t1:=(D2.out.cell (p:=⟨L.r,1,none⟩) (show L.r<wr.heap.size by omega)).trans s1
   have t2:=(D2.out.cell (p:=⟨L.r,2,none⟩) (show L.r<wr.heap.size by omega)).trans s2
   have HFL:=Hq (oqA (HLG.out.below D2.out) T.name Mz)
   rw [HTN.out] at HFL
   clear hb2 p0 p1 p2 p3 p4 p5 q0 q1 q2 q3 q4 q5 s1 s2 HS DN HRT HRU HTN
   obtain⟨c,hc⟩: ∃c,(σ.F t.name).getD noC=c:=⟨_,rfl⟩
   rw [hc] at HFL HCK
   obtain⟨ob,hob⟩: ∃b,(σ.F t.name).isSome=b:=⟨_,rfl⟩
   rw [hob] at HFL HOB
   clear hc hob
   go_wp2_with (go_at_call 24;refine aqa ?_)
   refine aqb ?_
   refine HFL.out.mono ?_
   clear HFL
   rintro e w3 ⟨p,i,f,m,rfl,hca,hb3⟩
   obtain⟨Ap,kp,rfl,_⟩:=aqd hca.hpool
   obtain⟨Ai,ki,rfl,_⟩:=aqd hca.hifs
   obtain⟨Ag,kg,rfl,_⟩:=aqd hca.hflds
   obtain⟨ms,_,hms2,_⟩:=id hca.hmths
   obtain⟨Am,km,rfl,_⟩:=aqd hms2
   obtain⟨p',i',f',m',hcb,hcc⟩:=HCK.out
   obtain⟨Bp,jp,rfl,_⟩:=aqd hcb.hpool
   obtain⟨Bi,ji,rfl,_⟩:=aqd hcb.hifs
   obtain⟨Bg,jg,rfl,_⟩:=aqd hcb.hflds
   obtain⟨ns,_,hns2,_⟩:=id hcb.hmths
   obtain⟨Bm,jm,rfl,_⟩:=aqd hns2
   rw [aqe]
   have Y:=Hq (aql w3 [.int .i64 0, .int .i64 0, .slice none 0 0, .int .i64 0, .int .i64 0, .int .i64 0, .slice none 0 0, .slice none 0 0, .slice none 0 0] 58)
   have B4:=Hq (aqH ((Below.refl w3.heap.size w3).alloc Nr (.cells #[.int .i64 0, .int .i64 0, .slice none 0 0, .int .i64 0, .int .i64 0, .int .i64 0, .slice none 0 0, .slice none 0 0, .slice none 0 0] 58)) w3.heap.size #[.int .i64 c.minor, .int .i64 c.major, .slice Ap c.pool.length kp, .int .i64 c.acc, .int .i64 c.this, .int .i64 c.sup, .slice Ai c.ifs.length ki, .slice Ag c.flds.length kg, .slice Am c.mths.length km] Nr)
   have X4:=Hq (Y.out.row [.int .i64 c.minor, .int .i64 c.major, .slice Ap c.pool.length kp, .int .i64 c.acc, .int .i64 c.this, .int .i64 c.sup, .slice Ai c.ifs.length ki, .slice Ag c.flds.length kg, .slice Am c.mths.length km])
   have D4:=Hq (D2.out.trans ((hb3.trans (B4.out.mono hb3.size)).mono hz2))
   have HCA:=Hq (hca.keep (aqC.of_below B4.out))
   have HCB:=Hq (hcb.keep (aqC.of_below ((B1.out.trans (hbr.mono hz1)).trans (D4.out.mono (Nat.le_trans hz1 hzr)))))
   have y2:=(D4.out.cell (p:=⟨L.r,2,none⟩) (show L.r<wr.heap.size by omega)).trans ((hbr.cell (p:=⟨L.r,2,none⟩) hLr1).trans HR2.out)
   have hd:=fun q (hq:q<9)=> (((B1.out.trans (hbr.mono hz1)).trans (D4.out.mono (Nat.le_trans hz1 hzr))).cell (p:=⟨g3,k*9+q,none⟩) hg3).trans (hcc q hq)
   have HD9:=Hq (show∀j v,([.int .i64 c.minor, .int .i64 c.major, .slice Bp c.pool.length jp, .int .i64 c.acc, .int .i64 c.this, .int .i64 c.sup, .slice Bi c.ifs.length ji, .slice Bg c.flds.length jg, .slice Bm c.mths.length jm]:List Value)[j]?=some v→((w3.alloc (.cells #[.int .i64 0, .int .i64 0, .slice none 0 0, .int .i64 0, .int .i64 0, .int .i64 0, .slice none 0 0, .slice none 0 0, .slice none 0 0] 58)).setRow w3.heap.size #[.int .i64 c.minor, .int .i64 c.major, .slice Ap c.pool.length kp, .int .i64 c.acc, .int .i64 c.this, .int .i64 c.sup, .slice Ai c.ifs.length ki, .slice Ag c.flds.length kg, .slice Am c.mths.length km]).cell? ⟨g3,k*9+j,none⟩=some v from fun j v hj=> (hd j (by have:=(List.getElem?_eq_some_iff.1 hj).1;simpa using this)).trans hj)
   clear hd hcc hca hcb hms2 hns2 hb3 HCK t1 t2
   go_wp2_with (refine wpList_store_row rfl _ _ _ rfl w3.heap.size _ rfl rfl _ _ Y.out Kq9 rfl Oc ?_)
   obtain⟨G9,hG9⟩: ∃g,w3.heap.size=g:=⟨_,rfl⟩
   have hz4:G9< ((w3.alloc (.cells #[.int .i64 0, .int .i64 0, .slice none 0 0, .int .i64 0, .int .i64 0, .int .i64 0, .slice none 0 0, .slice none 0 0, .slice none 0 0] 58)).setRow w3.heap.size #[.int .i64 c.minor, .int .i64 c.major, .slice Ap c.pool.length kp, .int .i64 c.acc, .int .i64 c.this, .int .i64 c.sup, .slice Ai c.ifs.length ki, .slice Ag c.flds.length kg, .slice Am c.mths.length km]).heap.size:=by simp;omega
   rw [hG9] at X4 B4 y2 HD9 D4 HCA HCB hz4⊢
   clear Y hG9
   generalize (w3.alloc (.cells #[.int .i64 0, .int .i64 0, .slice none 0 0, .int .i64 0, .int .i64 0, .int .i64 0, .slice none 0 0, .slice none 0 0, .slice none 0 0] 58)).setRow G9 #[.int .i64 c.minor, .int .i64 c.major, .slice Ap c.pool.length kp, .int .i64 c.acc, .int .i64 c.this, .int .i64 c.sup, .slice Ai c.ifs.length ki, .slice Ag c.flds.length kg, .slice Am c.mths.length km]=w4 at*
   have DM:=Hq (below_drewN (Below.refl w4.heap.size w4) 1)
   have HSM:=Hq (kqC c _ _ _ _ _ _ _ _ _ _ (w4.drewN 1) (HCA.out.keep (aqC.of_below DM.out)) (HCB.out.keep (aqC.of_below DM.out)))
   rw [aqe,aqe] at HSM
   have DZ:=Hq (D4.out.trans (DM.out.mono D4.out.size))
   have D4s:=D4.out.size
   clear HCA HCB B4 D2 D4
   refine bqW 8 Kq9 Kq9 ?_
   simp only [List.take_succ_cons,List.take_zero,List.drop_succ_cons,List.drop_zero]
   refine hqx rfl _ _ rfl G9 rfl _ [.int .i64 c.minor, .int .i64 c.major, .slice Ap c.pool.length kp, .int .i64 c.acc, .int .i64 c.this, .int .i64 c.sup, .slice Ai c.ifs.length ki, .slice Ag c.flds.length kg, .slice Am c.mths.length km] _ (fun _ e=>by rw [e];exact X4.out.below DM.out X4.out.lt) Tryz.underlying58 rfl Kq9 ?_
   try simp only [Act.put,List.setIfInBounds_toArray,List.set_cons_zero,List.set_cons_succ]
   repeat go_big_quiet_step (fail)
   refine jqn rfl _ _ rfl g3 (k*9) rfl [.int .i64 c.minor, .int .i64 c.major, .slice Bp c.pool.length jp, .int .i64 c.acc, .int .i64 c.this, .int .i64 c.sup, .slice Bi c.ifs.length ji, .slice Bg c.flds.length jg, .slice Bm c.mths.length jm] _ (fun _ e j v hj=>by rw [e];exact HD9.out j v hj) Tryz.underlying58 rfl Kq9 ?_
   refine wpQuiet_nil ?_
   go_wp2_with (go_at_call 38;refine HSM.out.mono ?_;rintro e w5 ⟨rfl,hb5⟩;refine aqa ?_)
   have DY:=Hq (DZ.out.trans (hb5.mono DZ.out.size))
   clear hb5 DZ HSM
   refine aqb ?_
   cases ob
   all_goals
    have hk6:decide ((26:Int)≤(k:Int))=decide (26≤k):=by congr 1;simp;omega
    rw [←HOB.out] at hk6
    go_wp2_with fail
    go_roundw
    case rel=>exact⟨k+1,by omega,by go_num,Hq (HBr.out.trans (DY.out.mono hzr))⟩
    case measure=>simp [RowKit.intOf];omega
  obtain rfl:k=n:=by omega
  go_wp2_with fail
  go_ret
  exact⟨rfl,B1.out.trans (HBr.out.mono hz1)⟩
set_option maxHeartbeats 1000000
structure Inv (σ:St):Prop where
 fok:FOk ⟨σ.ts,σ.F⟩
 nms: ∀t∈σ.ts,t.1.length≤1000000
 dfs: ∀s l,σ.D s=some l→s.length≤1000000
theorem oqC:Inv St.new:=by
 refine⟨⟨by decide,fun i t ht=> ?_⟩,fun t ht=> ?_,fun s l h=>by cases h⟩
 ·have hl:i<26:=(List.getElem?_eq_some_iff.1 ht).1
  show(none:Option aqc).isSome=decide (26≤i)
  rw [decide_eq_false Om]
  rfl
 have:=dqH t ht
 omega
theorem Inv.load {σ:St} (h:Inv σ) (s:ByteArray):Inv (σ.load s):=by
 have hn: ∀s c t,rdD aqK σ.D s= .ok (c,t)→t.name=s:=jqy
 refine⟨mq7 _ hn _ _ _ _ h.fok, ?_,h.dfs⟩
 refine gqY _ hn (fun τ=> ∀t∈τ.ts,t.1.length≤1000000) (fun τ s c t ht hr _ u hu=> ?_) 65 [] ⟨σ.ts,σ.F⟩ s h.nms
 rcases List.mem_append.1 (show u∈τ.ts++ [t.key] from hu) with hu|hu
 ·exact ht u hu
 obtain rfl:u=t.key:=by simpa using hu
 obtain⟨l,h1,_,_,h4⟩:=lqq hr
 show t.name.data.toList.length≤1000000
 rw [h4]
 exact h.dfs _ _ h1
theorem Inv.define {σ:St} (h:Inv σ) (s:ByteArray) (l:List UInt8) (hs:s.size≤1000000):Inv (σ.define s l):=by
 unfold St.define
 split
 ·refine⟨h.fok,h.nms,fun x l' hx=> ?_⟩
  have hx':kqs σ.D s.data.toList l x=some l':=hx
  unfold kqs at hx'
  split at hx'
  ·rename_i e
   rw [e]
   have:s.data.toList.length=s.size:=Array.length_toList
   omega
  exact h.dfs x l' hx'
 exact h
def jqo (W:World) (B:Nat) (e:TypeId) (size:Nat) (v:Value) (n:Nat):Prop:= ∃xs,W.ownsRow B e size v n xs
theorem gqj {W:World} {g:Nat} {cur:Array Value} {e:TypeId} (h:W.heap[g]?=some (.cells cur e (0,0))) (p:Addr) (u:Value): ∃cur',(W.setCell p u).heap[g]?=some (.cells cur' e (0,0))∧cur'.size=cur.size:=by
 by_cases hp:p.block=g
 ·subst hp
  obtain⟨b,off,spot⟩:=p
  rcases spot with _|sp
  ·exact⟨cur.setIfInBounds off u,by simp [World.setCell,Array.getElem?_modify,h],by simp⟩
  exact⟨cur,by simp [World.setCell,Array.getElem?_modify,h],rfl⟩
 exact⟨cur,(Below.heap_setCell _ _ _ _ (fun e=>hp (by first|exact e|exact e.symm))).trans h,rfl⟩
theorem jqo.set {W:World} {B:Nat} {e:TypeId} {size n:Nat} {v:Value} (h:jqo W B e size v n) (p:Addr) (u:Value):jqo (W.setCell p u) B e size v n:=by
 obtain⟨xs,hl,ho⟩:=h
 rcases ho with h0| ⟨g,cap,cur,rfl,hb,hg,hnc,hcm,hcs,hx⟩
 ·exact⟨xs,hl, .inl h0⟩
 obtain⟨cur',h1,h2⟩:=gqj hg p u
 refine⟨cur'.toList.take (n*size), ?_, .inr ⟨g,cap,cur',rfl,hb,h1,hnc,hcm,h2.trans hcs,rfl⟩⟩
 rw [List.length_take,Array.length_toList,h2,hcs]
 exact Nat.min_eq_left (Nat.mul_le_mul_right _ hnc)
theorem jqo.cell {W:World} {B:Nat} {e:TypeId} {size n g cap:Nat} (h:jqo W B e size (.slice (some ⟨g,0,none⟩) n cap) n) {j:Nat} (hj:j<n*size):(∃u,W.cell? ⟨g,j,none⟩=some u)∧W.frozen? ⟨g,j,none⟩=false:=by
 obtain⟨xs,hl,ho⟩:=h
 rcases ho with⟨h0,_⟩ | ⟨g',cap',cur,e1,hb,hg,hnc,hcm,hcs,hx⟩
 ·cases h0
 injection e1 with e1 e2 e3
 injection e1 with e1
 injection e1 with e1
 subst e1
 refine⟨⟨cur[j]'(by rw [hcs];exact Nat.lt_of_lt_of_le hj (Nat.mul_le_mul_right _ hnc)), ?_⟩, ?_⟩
 ·unfold World.cell?
  rw [hg]
  simp [Array.getElem?_eq_getElem (show j<cur.size by rw [hcs];exact Nat.lt_of_lt_of_le hj (Nat.mul_le_mul_right _ hnc))]
 unfold World.frozen?
 rw [hg]
 simp
theorem jqo.lt {W:World} {B:Nat} {e:TypeId} {size n:Nat} {v:Value} (h:jqo W B e size v n): ∀g,v.ownBlock=some g→B≤g∧g<W.heap.size:=by
 obtain⟨xs,h⟩:=h
 exact fun g hg=>h.lt g hg
theorem jqo.len {W:World} {B:Nat} {e:TypeId} {size n:Nat} {v:Value} (h:jqo W B e size v n):n≤9223372036854775807:=by
 obtain⟨xs,hl,ho⟩:=h
 rcases ho with⟨_,h0⟩ | ⟨g,cap,cur,rfl,hb,hg,hnc,hcm,_⟩
 ·omega
 unfold maxLen at hcm
 omega
theorem jqo.apart {W:World} {B B':Nat} {e e':TypeId} {s s' n n':Nat} {u u':Value} (h:jqo W B e s u n) (h':jqo W B' e' s' u' n') (hne:e≠e') {g:Nat} (hg:u.ownBlock=some g):u'.ownBlock≠some g:=by
 obtain⟨xs,h⟩:=h
 obtain⟨ys,h'⟩:=h'
 exact cq2 h h' hne hg
structure TyW (W:World) (M g cap n:Nat) (us:List TyV):Prop where
 row:jqo W M 39 6 (.slice (some ⟨g,0,none⟩) n cap) n
 ms: ∀j t,us[j]?=some t→W.cell? ⟨g,j*6+5,none⟩=some t.mths
 mem: ∀t∈us,jqo W M 52 5 t.mths t.ml.length
theorem TyW.nm {W:World} {M g cap n:Nat} {us:List TyV} (h:TyW W M g cap n us) (k:Nat) (u:Value):TyW (W.setCell ⟨g,k*6,none⟩ u) M g cap n us:=
 ⟨h.row.set _ _,fun j t ht=> (World.cell?_setCell_other _ _ _ _ (by intro e;injection e;omega)).trans (h.ms j t ht),fun t ht=> (h.mem t ht).set _ _⟩
theorem TyW.mm {W:World} {M g cap n:Nat} {us:List TyV} (h:TyW W M g cap n us) (p:Addr) (hp:p.block≠g) (u:Value):TyW (W.setCell p u) M g cap n us:=
 ⟨h.row.set _ _,fun j t ht=> (World.cell?_setCell_other _ _ _ _ (by rintro rfl;exact hp rfl)).trans (h.ms j t ht),fun t ht=> (h.mem t ht).set _ _⟩
theorem Duo.types {B lb r:Nat} {σx σy:St} {X:List Nat} {W:World} (h:Duo B lb r σx σy X W):Calls Tryz.prog 14 #[.pointer (some ⟨lb,0,none⟩)] W fun e w'=> ∃g cap n us,e= .returned (.slice (some ⟨g,0,none⟩) n cap)∧us.length=n∧n≤cap∧n≤1000∧TyW w' W.heap.size g cap n us∧Below W.heap.size W w':=by
 obtain⟨Lx,vx,L,v,rfl,rfl,k1,_⟩:=h.all
 obtain⟨ts,a1,a2,a3⟩:=k1.all
 have hl:=a3.len (by rw [k1.len];exact k1.le)
 rw [List.length_map] at hl
 refine(eq9 a2 Om Om).mono ?_
 rintro e w' ⟨ov,us,rfl,ho,hk,hif,hb⟩
 have hul:us.length=ts.length:=by rw [←List.length_map (f:=TyV.key),hk,List.length_map]
 rcases id ho.2 with⟨_,h1⟩ | ⟨g,cap,cur,rfl,hb',hg,hnc,hcm,hcs,hx⟩
 ·omega
 refine⟨g,cap,ts.length,us,rfl,hul,hnc,by omega,⟨⟨_,ho⟩,fun j t ht=> ?_,fun t ht=> ⟨_,(hif t ht).2⟩⟩,hb⟩
 have hl2:j<us.length:=(List.getElem?_eq_some_iff.1 ht).1
 exact(ho.cellAt (j*6+5) Om).trans (cqI us j t ht 5 Om)
set_option maxHeartbeats 4000000
theorem jqV {a:Act} {d i:Nat} {v:Value} (h:i≠d):(a.put (some d) v).eval (.tmp i)=a.eval (.tmp i):=by
 simp [Act.put,Act.eval,Array.getD_eq_getD_getElem?,Array.getElem?_setIfInBounds,Ne.symm h]
theorem mqt {a:Act} {d:Nat} {v:Value} (h:d<a.tmps.size):(a.put (some d) v).eval (.tmp d)=v:=by
 simp [Act.put,Act.eval,Array.getD_eq_getD_getElem?,Array.getElem?_setIfInBounds,h]
theorem nqK {a:Act} {d:Nat} {v:Value}:(a.put (some d) v).tmps.size=a.tmps.size:=by simp [Act.put]
structure FrK (a0 a:Act) (N lo hi:Nat):Prop where
 z:a.tmps.size=N
 d:a.defers=a0.defers
 k: ∀i:Nat,(i<lo∨hi<i)→a.eval (.tmp i)=a0.eval (.tmp i)
theorem FrK.put {a0 a:Act} {N lo hi:Nat} (h:FrK a0 a N lo hi) (d:Nat) (v:Value) (hd:lo≤d∧d≤hi∧d<N): ∃b,a.put (some d) v=b∧FrK a0 b N lo hi∧b.eval (.tmp d)=v∧ ∀i:Nat,i≠d→b.eval (.tmp i)=a.eval (.tmp i):=
 ⟨_,rfl,⟨nqK.trans h.z,h.d,fun i hi=> (jqV Om).trans (h.k i hi)⟩,mqt (by rw [h.z];exact hd.2.2),fun i hi=>jqV hi⟩
theorem wf_u8 {n:Int} (h:(Lit.int .u8 n).wf=true):0≤n∧n≤255:=by
 have h2:IntKind.u8.min≤n∧n≤IntKind.u8.max:=by simpa [Lit.wf] using h
 have h3:IntKind.u8.min=0:=by decide
 have h4:IntKind.u8.max=255:=by decide
 omega
end Go.Proofs.YtdbniocnjhfhdaaGreatDoor
set_option maxHeartbeats 4000000
namespace Go.Proofs.YtdbniocnjhfhdaaGreatDoor
open Go Go.RowKit Lib Go.ChangeShapes Go.ChangeAt
structure DfD where
 name:ByteArray
 bytes:List UInt8
 load:Bool
def df0:DfD:=⟨⟨#[]⟩, [],false⟩
structure DfAt (w:World) (b o:Nat) (d:DfD):Prop where
 nm:w.cell? ⟨b,o,none⟩=some (.string d.name)
 by': ∃A len cap,w.cell? ⟨b,o+1,none⟩=some (.slice A len cap)∧RdB w A len cap d.bytes
 ld:w.cell? ⟨b,o+2,none⟩=some (.bool d.load)
 ns:d.name.size≤9223372036854775807
structure oqF (w:World) (A:Option Addr) (len cap:Nat) (l:List DfD):Prop where
 hlen:len=l.length
 hle:len≤cap
 hmax:len≤9223372036854775807
 hat:0<len→ ∃b off,A=some ⟨b,off,none⟩∧b<w.heap.size∧ ∀i,i<len→DfAt w b (off+i*3) (l.getD i df0)
theorem oqD:Tryz.prog.cellsOf 29=3:=by kernel_rfl
theorem oq2 {w:World} {x:Addr} {len cap:Nat} {zs:List Int} (hl:len≤cap) (hm:cap≤maxLen) (hz:len≤zs.length) (hc: ∀i,i<zs.length→w.cell? (x.add i)=some (.int .u8 (zs.getD i 0))) (hw: ∀n∈zs,(Lit.int .u8 n).wf=true):
  RdB w (some x) len cap ((zs.take len).map fun n=>UInt8.ofNat n.toNat):=by
 refine⟨by simp;omega,hl,by unfold maxLen at hm;omega,fun h0=> ?_⟩
 obtain⟨b,off,spot⟩:=x
 have h1:=hc 0 Om
 have hs:spot=none:=by
  rcases spot with _|s
  ·rfl
  exfalso
  simp [Addr.add,World.cell?] at h1
  split at h1<;>simp at h1
 subst hs
 refine⟨b,off,rfl, ?_,fun i hi=> ?_⟩
 ·have:=World.block_lt_of_cell? _ _ h1
  simpa [Addr.add] using this
 have h2:=hc i Om
 rw [bqB] at h2
 rw [h2]
 have hi2:i<zs.length:=by omega
 have hmem:zs[i]∈zs:=List.getElem_mem _
 have hb:=wf_u8 (hw _ hmem)
 have e:zs.getD i 0=zs[i]:=by rw [List.getD_eq_getElem?_getD,List.getElem?_eq_getElem hi2];rfl
 rw [e]
 have e2:byt ((zs.take len).map fun n=>UInt8.ofNat n.toNat) i=zs[i].toNat:=by
  unfold byt
  rw [List.getD_eq_getElem?_getD,List.getElem?_map,List.getElem?_take,if_pos hi,List.getElem?_eq_getElem hi2]
  simp only [Option.map_some,Option.getD_some,UInt8.toNat_ofNat']
  omega
 rw [e2]
 congr 2
 omega
theorem nqL:Tryz.prog.bytesOf 5=1:=by kernel_rfl
theorem gqd {H:Type} {P:Program} {e:TypeId} {f:Nat→Bool}: ∀(l:List (DataW H)),(DataW.weightsAll P e l).all f=true→ ∀x∈l,(x.weights P e).all f=true
 | [],h,x,hx=>by simp at hx
 |y::l,h,x,hx=>by
  rw [DataW.weightsAll,List.all_append,Bool.and_eq_true] at h
  rcases List.mem_cons.1 hx with rfl|hx
  ·exact h.1
  exact gqd l h.2 x hx
theorem oq3 {H:Type} {enc:TypeId×Value→H} {w:World} {base:Nat} {spare:Nat→Bool} {held:Bool} {A:Option Addr} {len cap:Nat} {d:DataW H} {p:List MemPlace}
  (h:DataW.Trod enc Tryz.prog w base spare held 22 (.slice A len cap) d p): ∃l,oqF w A len cap l∧((d.weights Tryz.prog 22).all (· ≤reachBytes)=true→ ∀q∈l,q.name.size≤140737488351232∧q.bytes.length≤140737488351232):=by
 obtain⟨fuel,hf⟩:=h
 rcases Deep.open_slice Tryz.underlying22 hf with⟨hcs,_⟩ | ⟨x,len',cap',m,n,D,Pl,hcs,_,hl,hm,hmm,hxd,hi⟩
 ·simp [Value.cells] at hcs
  obtain⟨rfl,rfl,rfl⟩:=hcs
  exact⟨[],⟨rfl,Nat.le_refl _,by omega,fun h0=>absurd h0 Om⟩,fun _ q hq=>by simp at hq⟩
 simp [Value.cells] at hcs
 obtain⟨rfl,rfl,rfl⟩:=hcs
 have hlm:len≤m:=by rw [hmm];split<;>omega
 have key: ∀i, ∃q:DfD,i<len→w.cell? (x.add (i*3))=some (.string q.name)∧(∃A' n' c',w.cell? ((x.add (i*3)).add 1)=some (.slice A' n' c')∧RdB w A' n' c' q.bytes)∧w.cell? ((x.add (i*3)).add 2)=some (.bool q.load)∧q.name.size≤9223372036854775807∧(((D i).weights Tryz.prog 29).all (· ≤reachBytes)=true→q.name.size≤140737488351232∧q.bytes.length≤140737488351232):=by
  intro i
  by_cases hlt:i<len
  ·obtain⟨cs',hc,ht'⟩:=hi i Om
   rw [oqD] at hc
   obtain⟨_,hcl,hat⟩:=World.cells?_some hc
   obtain⟨y0,y1,y2,k,hxi,_,h0,h1,h2⟩:=Deep.trod_struct3 Tryz.underlying29 ht'
   obtain⟨c0,c1,c2,rfl⟩: ∃c0 c1 c2,cs'= [c0,c1,c2]:=by
    match cs',hcl with
    | [c0,c1,c2],_=>exact⟨c0,c1,c2,rfl⟩
   have ck0:Tryz.prog.cellsOf 9=1:=by kernel_rfl
   have ck1:Tryz.prog.cellsOf 27=1:=by kernel_rfl
   have ck2:Tryz.prog.cellsOf 4=1:=by kernel_rfl
   simp only [ck0,ck1,ck2] at h0 h1 h2
   obtain⟨s,e0,hy0,hs⟩:=DataW.trod_string Tryz.underlying9 (show DataW.trod enc Tryz.prog w base spare held k 9 [c0]=some y0 from h0)
   obtain⟨bl,e2,_⟩:=DataW.trod_bool Tryz.underlying4 (show DataW.trod enc Tryz.prog w base spare held k 4 [c2]=some y2 from h2)
   obtain⟨A',n',c',bs,e1,hb,hwb⟩: ∃A' n' c' bs,c1= .slice A' n' c'∧RdB w A' n' c' bs∧((y1.1.weights Tryz.prog 27).all (· ≤reachBytes)=true→bs.length≤140737488351232):=by
    rcases open_ints Tryz.underlying27 Tryz.underlying5 Kq9 (show DataW.trod enc Tryz.prog w base spare held k 27 [c1]=some y1 from h1) with⟨e1,_⟩ | ⟨x1,l1,cp1,zs,e1,_,hl1,hm1,hz,hy1,hcell,hwz⟩
    ·simp at e1
     exact⟨none,0,0, [],e1,⟨rfl,Nat.le_refl _,by decide,fun h=>absurd h Dd9⟩,fun _=>by simp⟩
    simp at e1
    refine⟨_,_,_,_,e1,oq2 hl1 hm1 (by rw [hz];split<;>omega) hcell hwz,fun hw=> ?_⟩
    rw [show y1.1=(.slice (lits .u8 (zs.take l1)) (lits .u8 (zs.drop l1))) from congrArg Prod.fst hy1,DataW.weights,Tryz.underlying27] at hw
    simp only [List.all_cons,Bool.and_eq_true,decide_eq_true_eq] at hw
    have h1:=hw.1
    rw [nqL,Nat.mul_one] at h1
    simp only [lits,List.length_map,List.length_take,List.length_drop] at h1
    unfold reachBytes at h1
    simp only [List.length_map,List.length_take]
    omega
   simp at e0 e2
   subst e0 e1 e2
   refine⟨⟨s,bs,bl⟩,fun _=> ⟨?_,⟨A',n',c',hat 1 Om,hb⟩,hat 2 Om,by unfold maxLen at hs;omega,fun hw=> ?_⟩⟩
   have:=hat 0 Om
   rw [Addr.add_zero'] at this
   exact this
   rw [show D i= .agg [y0.1,y1.1,y2.1] from congrArg Prod.fst hxi,DataW.weights,Tryz.underlying29] at hw
   simp only [Array.toList,List.map_cons,DataW.weightsEach,List.all_append,Bool.and_eq_true] at hw
   refine⟨?_,hwb hw.2.1⟩
   show s.size≤140737488351232
   have h1:=hw.1
   rw [show y0.1= .lit (.string s.data.toList) from congrArg Prod.fst hy0,DataW.weights] at h1
   simp only [List.all_cons,Bool.and_eq_true,decide_eq_true_eq] at h1
   have h2:=h1.1
   unfold reachBytes at h2
   have h3:s.data.toList.length=s.size:=Array.length_toList
   omega
  exact⟨df0,fun h=>absurd h hlt⟩
 obtain⟨f,hf'⟩:=Classical.axiomOfChoice key
 refine⟨(List.range len).map f,⟨by simp,hl,by unfold maxLen at hm;omega,fun h0=> ?_⟩,fun hw q hq=> ?_⟩
 rotate_left
 ·obtain⟨i,hi,rfl⟩:=List.mem_map.1 hq
  have hil:i<len:=List.mem_range.1 hi
  refine(hf' i hil).2.2.2.2 ?_
  rw [show d= .slice ((List.range len).map D) ((List.range (m - len)).map fun j=>D (len+j)) from congrArg Prod.fst hxd,DataW.weights,Tryz.underlying22] at hw
  simp only [List.all_cons,List.all_append,Bool.and_eq_true] at hw
  exact gqd _ hw.2.1 _ (List.mem_map.2 ⟨i,hi,rfl⟩)
 obtain⟨b,off,spot⟩:=x
 have h1:=(hf' 0 h0).1
 have hs:spot=none:=by
  rcases spot with _|s
  ·rfl
  exfalso
  simp [Addr.add,World.cell?] at h1
  split at h1<;>simp at h1
 subst hs
 refine⟨b,off,rfl, ?_,fun i hi=> ?_⟩
 ·have:=World.block_lt_of_cell? _ _ h1
  simpa [Addr.add] using this
 have hg:=hf' i hi
 have e:((List.range len).map f).getD i df0=f i:=by
  rw [List.getD_eq_getElem?_getD,List.getElem?_map,List.getElem?_range hi]
  rfl
 rw [e]
 simp only [bqB] at hg
 exact⟨hg.1,hg.2.1,hg.2.2.1,hg.2.2.2.1⟩
end Go.Proofs.YtdbniocnjhfhdaaGreatDoor
namespace Go.Proofs.YtdbniocnjhfhdaaGreatDoor
open Go Go.RowKit Lib
structure DfC (w:World) (b o:Nat) (d:DfD) (A:Option Addr) (n c:Nat):Prop where
 nm:w.cell? ⟨b,o,none⟩=some (.string d.name)
 by':w.cell? ⟨b,o+1,none⟩=some (.slice A n c)
 ld:w.cell? ⟨b,o+2,none⟩=some (.bool d.load)
theorem DfC.low {B:Nat} {w w':World} {b o:Nat} {d:DfD} {A:Option Addr} {n c:Nat} (h:DfC w b o d A n c) (hb:Below B w w') (hl:b<B):DfC w' b o d A n c:=
 ⟨(hb.cell (p:=⟨b,o,none⟩) hl).trans h.nm,(hb.cell (p:=⟨b,o+1,none⟩) hl).trans h.by',(hb.cell (p:=⟨b,o+2,none⟩) hl).trans h.ld⟩
theorem DfAt.low {B:Nat} {w w':World} {b o:Nat} {d:DfD} (h:DfAt w b o d) (hb:Below B w w') (hl:b<B) (hB:B=w.heap.size):DfAt w' b o d:=by
 obtain⟨A,n,c,h1,h2⟩:=h.by'
 subst hB
 exact⟨(hb.cell (p:=⟨b,o,none⟩) hl).trans h.nm,⟨A,n,c,(hb.cell (p:=⟨b,o+1,none⟩) hl).trans h1,h2.below hb⟩,(hb.cell (p:=⟨b,o+2,none⟩) hl).trans h.ld,h.ns⟩
theorem oqF.below {w w':World} {A:Option Addr} {n c:Nat} {l:List DfD} (h:oqF w A n c l) (hb:Below w.heap.size w w'):oqF w' A n c l:=
 ⟨h.hlen,h.hle,h.hmax,fun h0=>by
  obtain⟨b,off,e,hlt,hc⟩:=h.hat h0
  exact⟨b,off,e,Nat.lt_of_lt_of_le hlt hb.size,fun i hi=> (hc i hi).low hb hlt rfl⟩⟩
theorem mqu (A:Option Addr) (len cap:Nat) (l:List DfD) (w:World) (h:oqF w A len cap l) (hsz: ∀d∈l,d.name.size≤140737488351232∧d.bytes.length≤140737488351232):Calls Tryz.prog 11 #[.slice A len cap] w fun e w'=> ∃b,e= .returned (.bool b)∧(b=false→ ∀d∈l,d.name.size≤80000∧d.bytes.length≤80000)∧Below w.heap.size w w':=by
 have HD:=Hq h
 have hmx:=h.hmax
 have hle:=h.hle
 have HSZ:=Hq hsz
 have HLN:=Hq h.hlen
 clear h hsz
 go_enter Tryz.func11,Tryz.ntmps11
 go_wp2_with fail
 go_loopw [3,4] (fun n i wr=> ∃(k N:Nat),k≤len∧N≤562949953421312∧i= .int .i64 k∧n= .int .i64 N∧Hid (Below w.heap.size w wr)∧Hid (∀d∈l.take k,d.name.size≤N∧d.bytes.length≤N)) (fun _ i _=>len - (RowKit.intOf i).toNat)
 case atStart=>exact⟨0,0,by omega,by omega,rfl,rfl,Hq Rf9,Hq Sp⟩
 case round=>
  obtain⟨k,N,hk,hN5,rfl,rfl,HBr,HALL⟩:=hrel
  by_cases hlt:k<len
  ·by_cases hN:N≤80000
   ·have dN:decide ((N:Int)≤80000)=true:=decide_eq_true Om
    obtain⟨b,off,hA,hbl,hat⟩:=(HD.out.below HBr.out).hat Om
    subst hA
    obtain⟨A',n',c',c1,hrb⟩:=(hat k hlt).by'
    have hmem:l.getD k df0∈l:=by
     rw [List.getD_eq_getElem?_getD,List.getElem?_eq_getElem (by have:=HLN.out;omega)]
     exact List.getElem_mem _
    have htk:l.take (k+1)=l.take k++ [l.getD k df0]:=by
     rw [List.take_add_one,List.getD_eq_getElem?_getD,List.getElem?_eq_getElem (by have:=HLN.out;omega)]
     rfl
    obtain⟨z1,z2⟩:=HSZ.out _ hmem
    have hn':=hrb.hlen
    have HTK:=Hq htk
    clear hmem htk
    have c0:=(hat k hlt).nm
    generalize l.getD k df0=d at*
    have HB2:=Hq (fun m=>HBr.out.trans ((below_drewN (Below.refl wr.heap.size wr) m).mono HBr.out.size))
    have hi1:(0:Int)≤(k:Int):=by omega
    have hi2:(k:Int) < (len:Int):=by omega
    clear hat hrb HBr
    rw [←hn'] at z2
    have HN':=Hq hn'
    clear hn'
    go_wp2_with fail
    go_quiet (fail)
    all_goals go_wp2_with fail
    all_goals
     go_roundw
     case rel=>
      refine⟨k+1,N+1+n'+d.name.size,by omega,by omega,by go_num,by go_num,Hq (HB2.out _),Hq fun q hq=> ?_⟩
      rw [HTK.out] at hq
      have h2:=HN'.out
      rcases List.mem_append.1 hq with hq|hq
      ·have:=HALL.out q hq
       omega
      obtain rfl:q=d:=by simpa using hq
      omega
     case measure=>simp [RowKit.intOf];omega
   have dN:decide ((N:Int)≤80000)=false:=decide_eq_false Om
   have dM:decide ((80000:Int) < (N:Int))=true:=decide_eq_true Om
   clear hN
   go_wp2_with fail
   go_ret
   exact⟨true,rfl,fun h=> (by cases h),HBr.out⟩
  by_cases hN:N≤80000
  ·have dN:decide ((N:Int)≤80000)=true:=decide_eq_true Om
   have dM:decide ((80000:Int) < (N:Int))=false:=decide_eq_false Om
   have HN8:=Hq hN
   clear hN
   go_wp2_with fail
   go_ret
   refine⟨_,rfl,fun _ d hd=> ?_,HBr.out⟩
   have hk2:k=l.length:=by have:=HLN.out;omega
   have:=HALL.out d (by rw [hk2,List.take_length];exact hd)
   have:=HN8.out
   omega
  have dN:decide ((N:Int)≤80000)=false:=decide_eq_false Om
  have dM:decide ((80000:Int) < (N:Int))=true:=decide_eq_true Om
  clear hN
  go_wp2_with fail
  go_ret
  exact⟨true,rfl,fun h=> (by cases h),HBr.out⟩
end Go.Proofs.YtdbniocnjhfhdaaGreatDoor
