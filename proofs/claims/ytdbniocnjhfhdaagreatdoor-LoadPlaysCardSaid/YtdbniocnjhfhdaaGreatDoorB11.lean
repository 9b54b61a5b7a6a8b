/- Part 11 of what the laws rest on: walks. Conditions: those that each theorem names. -/
import Derived.Test.YtdbniocnjhfhdaaGreatDoorB10
set_option linter.unusedSimpArgs false
set_option linter.unusedVariables false
set_option maxRecDepth 100000
set_option maxHeartbeats 2000000
namespace Go.Proofs.YtdbniocnjhfhdaaGreatDoor
open Go Go.RowKit Lib Go.Maps
structure RdW (w wk:World):Prop where
 bel:Below w.heap.size w wk
 r4:Bx wk w.heap.size aqz 58
 r5:Bx wk (w.heap.size+1) aq0 39
theorem RdW.below {w wk wq:World} (h:RdW w wk) (hb:Below wk.heap.size wk wq):RdW w wq:=⟨h.bel.trans (hb.mono h.bel.size),h.r4.below hb h.r4.lt,h.r5.below hb h.r5.lt⟩
theorem RdW.row {w wk:World} (h:RdW w wk) (g:Nat) (cs:Array Value) (hg:w.heap.size+2≤g):RdW w (wk.setRow g cs):=⟨h.bel.trans ⟨rfl,rfl,rfl,by simp,fun k hk=>setRow_other _ _ _ _ Om⟩,(setRow_other wk g _ cs Om).trans h.r4,(setRow_other wk g _ cs Om).trans h.r5⟩
structure RdG (w:World) (G H:Nat) (cs ts:List Value) (wk:World):Prop where
 rd:RdW w wk
 gc:Bx wk G cs 58
 gt:Bx wk H ts 39
theorem RdG.below {w:World} {G H:Nat} {cs ts:List Value} {wk wq:World} (h:RdG w G H cs ts wk) (hb:Below wk.heap.size wk wq):RdG w G H cs ts wq:=⟨h.rd.below hb,h.gc.below hb h.gc.lt,h.gt.below hb h.gt.lt⟩
theorem aqH {B:Nat} {a w:World} (h:Below B a w) (g:Nat) (cs:Array Value) (hg:B≤g):Below B a (w.setRow g cs):=h.trans ⟨rfl,rfl,rfl,by simp,fun k hk=>setRow_other w g k cs Om⟩
theorem eqH:aqz.length=9∧aq0.length=6∧(∀u∈aqz,u.oneCell'=true)∧(∀u∈aq0,u.oneCell'=true):=by decide
theorem iqE (w:World) (g:Nat) (cs:Array Value):But w.heap.size [g] w (w.setRow g cs):=⟨rfl,rfl,rfl,by simp,fun k _ hm=>setRow_other _ _ _ _ (by simpa using hm)⟩
theorem kqd (lb bd n sz:Nat) (fd:List UInt8→Option Value) (name:ByteArray) (w:World) (hc:w.cell? ⟨lb,0,none⟩=some (.map (some bd))) (hl:lb<w.heap.size) (hM:cqa w Tryz.prog 9 bd n fd sz) (hs:name.size≤maxLen) (hn:fd name.data.toList=none):
  Calls Tryz.prog 46 #[.pointer (some ⟨lb,0,none⟩), .string name] w (fqI (.error eqG) w):=by
 have HM:=Hq hM
 have hbd:=hM.lt
 have HN:=Hq hn
 have R0:=Hq (show RdW w ((w.alloc (.cells #[.int .i64 0, .int .i64 0, .slice none 0 0, .int .i64 0, .int .i64 0, .int .i64 0, .slice none 0 0, .slice none 0 0, .slice none 0 0] 58)).alloc (.cells #[.string ⟨#[]⟩, .string ⟨#[]⟩, .int .i64 0, .slice none 0 0, .slice none 0 0, .slice none 0 0] 39)) from⟨(Rf9.alloc Nr _).alloc Sp _,(aql w aqz _).below (Rf9.alloc Nr _) Sp,aqh _ aq0 _ _ Sp⟩)
 clear hM hn
 go_enter Tryz.func46,Tryz.ntmps46
 go_wp2_with (first
  | (at_lookup;refine cqs rfl _ _ rfl Tryz.underlying9 Tryz.underlying61 (z:= .slice none 0 0) Kq9 rfl (HM.out.keep (R0.out.bel.block bd hbd)) rfl hs ?_;rw [HN.out])
  | (go_at_call 45;refine(bqN _ Dd9 _).mono ?_;rintro e w1 ⟨rfl,rfl⟩)
  | (refine wpList_store_row rfl _ _ _ rfl w.heap.size _ rfl rfl _ _ R0.out.r4 Kq9 rfl Oc ?_)
  | (refine wpList_store_row rfl _ _ _ rfl (w.heap.size+1) _ rfl rfl _ _ ((setRow_other _ _ _ _ Om).trans R0.out.r5) Kq9 rfl Oc ?_))
 refine bodyPost_ret (cqn rfl rfl rfl rfl ((setRow_other _ (w.heap.size+1) w.heap.size _ Om).trans (R0.out.r4.row aqz)) (Bx.row (vs:=aq0) ((setRow_other _ w.heap.size (w.heap.size+1) _ Om).trans R0.out.r5) aq0) rfl rfl Kq9 rfl rfl Kq9) rfl ⟨?_,_,_,eqH.1,eqH.2.1,eqH.2.2.1,eqH.2.2.2,rfl⟩
 exact aqH (aqH R0.out.bel _ _ Nr) _ _ Om
theorem bqz {P:Program} {o:Oper} {a:Act} {w:World} {ty:TypeId} {x:Operand} (ho:o.op= .load ty x) {g:Nat} (hx:a.eval x= .pointer (some ⟨g,0,none⟩)) {t:TypeId} {cs:List Value} {d:TypeDesc}
  (hc:Bx w g cs t) (hu:P.underlying ty=some d) (hd:(match d with| .struct _| .array _ _=>true|_=>false)=true) (hi:(P.info? ty).map (·.size)=some cs.length):(execOp a.eval o).run P w= .ok (.value (.agg cs.toArray)) w:=by
 have hr:=run_loadVar_row (P:=P) w g t ty cs.toArray (0,0) d hc hu hd (by simpa using hi)
 unfold execOp
 simp only [ho,hx,Instr.loadAt,Instr.sureAddr,Sem.run_bind,Sem.run_pure,Result.andThen_ok,hr]
theorem oqa {a b:ByteArray} (h:a≠b):(a.toList==b.toList)=false:=by
 rw [beq_eq_false_iff_ne]
 intro e
 rw [ByteArray.toList_eq,ByteArray.toList_eq] at e
 exact h (Go.WideShapes.bytes_inj e)
theorem kqe (CE:aqc→Int) (lb bd n sz:Nat) (fd:List UInt8→Option Value) (name:ByteArray) (A:Option Addr) (cap:Nat) (l:List UInt8) (w:World) (hc:w.cell? ⟨lb,0,none⟩=some (.map (some bd))) (hl:lb<w.heap.size) (hM:cqa w Tryz.prog 9 bd n fd sz) (hs:name.size≤maxLen)
  (hn:fd name.data.toList=some (.slice A l.length cap)) (hrd:RdB w A l.length cap l) (hA: ∀a,A=some a→a.block<w.heap.size) (hlen:l.length≤1048576)
  (hout: ∀c,bq6 l= .ok c→ ∀p i f m ok W,aqy W ok c p i f m→Calls Tryz.prog 68 #[bqb c p i f m] W (iqw c (CE c) W)):
  Calls Tryz.prog 46 #[.pointer (some ⟨lb,0,none⟩), .string name] w (fqI (gqV CE l name) w):=by
 have HM:=Hq hM
 have hbd:=hM.lt
 have HN:=Hq hn
 have HRD:=Hq hrd
 have HA:=Hq hA
 have HO:=Hq hout
 have R0:=Hq (show RdW w ((w.alloc (.cells #[.int .i64 0, .int .i64 0, .slice none 0 0, .int .i64 0, .int .i64 0, .int .i64 0, .slice none 0 0, .slice none 0 0, .slice none 0 0] 58)).alloc (.cells #[.string ⟨#[]⟩, .string ⟨#[]⟩, .int .i64 0, .slice none 0 0, .slice none 0 0, .slice none 0 0] 39)) from⟨(Rf9.alloc Nr _).alloc Sp _,(aql w aqz _).below (Rf9.alloc Nr _) Sp,aqh _ aq0 _ _ Sp⟩)
 have hz0:((w.alloc (.cells #[.int .i64 0, .int .i64 0, .slice none 0 0, .int .i64 0, .int .i64 0, .int .i64 0, .slice none 0 0, .slice none 0 0, .slice none 0 0] 58)).alloc (.cells #[.string ⟨#[]⟩, .string ⟨#[]⟩, .int .i64 0, .slice none 0 0, .slice none 0 0, .slice none 0 0] 39)).heap.size=w.heap.size+2:=by simp
 obtain⟨r,hr⟩: ∃r,gqV CE l name=r:=⟨_,rfl⟩
 rw [hr]
 have HR:=Hq hr
 clear hM hn hrd hA hout hr
 go_enter Tryz.func46,Tryz.ntmps46
 go_wp2_with (first
  | (at_lookup;refine cqs rfl _ _ rfl Tryz.underlying9 Tryz.underlying61 (z:= .slice none 0 0) Kq9 rfl (HM.out.keep (R0.out.bel.block bd hbd)) rfl hs ?_;rw [HN.out])
  | (go_at_call 67;refine aqa ?_))
 refine aqb ?_
 refine(mqV kq1 jq5 A cap l _ (HRD.out.below R0.out.bel) (fun a e=>Nat.lt_of_lt_of_le (HA.out a e) R0.out.bel.size) hlen).mono ?_
 intro e w3 hq
 obtain⟨hb,hq⟩:=hq
 have R3:=Hq (R0.out.below hb)
 have hz3:=R3.out.r5.lt
 clear hb R0 HM HN HRD HA hc hl
 rcases hrp:bq6 l with⟨a,er⟩ |c
 ·rw [hrp] at hq
  simp only at hq
  subst hq
  obtain⟨hb0,hb12⟩:=kq7 hrp
  have HRQ:r= .error iqD:=by rw [←HR.out];unfold gqV;rw [hrp]
  subst HRQ
  clear hrp HR HO hz0
  have he0:((er:Int)==0)=false:=by simp;omega
  have he1:((er:Int)==12)=false:=by simp;omega
  have he2:((er:Int) !=0)=true:=by simp;omega
  clear hb0 hb12
  unfold aqz
  have Z3:=Hq (aql w3 [.int .i64 0, .int .i64 0, .slice none 0 0, .int .i64 0, .int .i64 0, .int .i64 0, .slice none 0 0, .slice none 0 0, .slice none 0 0] 58)
  go_wp2_with (refine wpList_store_row rfl _ _ _ rfl w3.heap.size _ rfl rfl _ _ Z3.out Kq9 rfl Oc ?_;refine aqa ?_)
  refine aqb ?_
  have R4:=Hq ((R3.out.below (Rf9.alloc Nr (.cells #[.int .i64 0, .int .i64 0, .slice none 0 0, .int .i64 0, .int .i64 0, .int .i64 0, .slice none 0 0, .slice none 0 0, .slice none 0 0] 58))).row w3.heap.size #[.int .i64 0, .int .i64 0, .slice none 0 0, .int .i64 0, .int .i64 0, .int .i64 0, .slice none 0 0, .slice none 0 0, .slice none 0 0] Om)
  have K4:=Hq (Z3.out.row [.int .i64 0, .int .i64 0, .slice none 0 0, .int .i64 0, .int .i64 0, .int .i64 0, .slice none 0 0, .slice none 0 0, .slice none 0 0])
  have L4:=Hq (aqH ((Below.refl w3.heap.size w3).alloc Nr (.cells #[.int .i64 0, .int .i64 0, .slice none 0 0, .int .i64 0, .int .i64 0, .int .i64 0, .slice none 0 0, .slice none 0 0, .slice none 0 0] 58)) w3.heap.size #[.int .i64 0, .int .i64 0, .slice none 0 0, .int .i64 0, .int .i64 0, .int .i64 0, .slice none 0 0, .slice none 0 0, .slice none 0 0] Nr)
  have hz4:((w3.alloc (.cells #[.int .i64 0, .int .i64 0, .slice none 0 0, .int .i64 0, .int .i64 0, .int .i64 0, .slice none 0 0, .slice none 0 0, .slice none 0 0] 58)).setRow w3.heap.size #[.int .i64 0, .int .i64 0, .slice none 0 0, .int .i64 0, .int .i64 0, .int .i64 0, .slice none 0 0, .slice none 0 0, .slice none 0 0]).heap.size=w3.heap.size+1:=by simp
  generalize ((w3.alloc (.cells #[.int .i64 0, .int .i64 0, .slice none 0 0, .int .i64 0, .int .i64 0, .int .i64 0, .slice none 0 0, .slice none 0 0, .slice none 0 0] 58)).setRow w3.heap.size #[.int .i64 0, .int .i64 0, .slice none 0 0, .int .i64 0, .int .i64 0, .int .i64 0, .slice none 0 0, .slice none 0 0, .slice none 0 0])=w4 at*
  obtain⟨G,hG⟩: ∃G,w3.heap.size=G:=⟨_,rfl⟩
  have L5:=Hq (L4.out.alloc Om (.cells #[.string ⟨#[]⟩, .string ⟨#[]⟩, .int .i64 0, .slice none 0 0, .slice none 0 0, .slice none 0 0] 39))
  rw [hG] at hz3 hz4 K4⊢
  have RG:=Hq (show RdG w G (G+1) [.int .i64 0, .int .i64 0, .slice none 0 0, .int .i64 0, .int .i64 0, .int .i64 0, .slice none 0 0, .slice none 0 0, .slice none 0 0] [.string ⟨#[]⟩, .string ⟨#[]⟩, .int .i64 0, .slice none 0 0, .slice none 0 0, .slice none 0 0] (w4.alloc (.cells #[.string ⟨#[]⟩, .string ⟨#[]⟩, .int .i64 0, .slice none 0 0, .slice none 0 0, .slice none 0 0] 39)) from⟨R4.out.below (Rf9.alloc Nr _),K4.out.below (Rf9.alloc Nr _) K4.out.lt,aqh _ _ _ _ hz4.symm⟩)
  clear Z3 R4 K4 L4
  go_wp2_with fail
  have D:=Hq (RG.out.below (Rf9.drew))
  refine wp_region_held_drew (S:=fun w'=>Bx w' G [.int .i64 0, .int .i64 0, .slice none 0 0, .int .i64 0, .int .i64 0, .int .i64 0, .slice none 0 0, .slice none 0 0, .slice none 0 0] 58∧Bx w' (G+1) [.string ⟨#[]⟩, .string ⟨#[]⟩, .int .i64 0, .slice none 0 0, .slice none 0 0, .slice none 0 0] 39) rfl ⟨D.out.gc,D.out.gt⟩ (fun hS=> ?_)
  refine wpAnyH_take (i:=0) (oi:={ dst:=some 49,op:=Op.load 58 (Operand.tmp 9),type:=58,pos:= "load.go:85",after:= #[],guard:=none }) (v:= .agg #[.int .i64 0, .int .i64 0, .slice none 0 0, .int .i64 0, .int .i64 0, .int .i64 0, .slice none 0 0, .slice none 0 0, .slice none 0 0]) rfl Kq9 Kq9 Kq9 (fun _ _ _ h=>h) (Or.inl ⟨by rfl,fun w' hw'=>bqz rfl rfl hw'.1 Tryz.underlying58 rfl Kq9⟩) hS ?_
  refine wpAnyH_take (i:=1) (oi:={ dst:=some 50,op:=Op.load 39 (Operand.tmp 12),type:=39,pos:= "load.go:85",after:= #[{ on:=3,ground:=Ground.gcOnly Departure.lateStores }],guard:=none }) (v:= .agg #[.string ⟨#[]⟩, .string ⟨#[]⟩, .int .i64 0, .slice none 0 0, .slice none 0 0, .slice none 0 0]) rfl Kq9 Kq9 Kq9 (fun _ _ _ h=>h) (Or.inl ⟨by rfl,fun w' hw'=>bqz rfl rfl hw'.2 Tryz.underlying39 rfl Kq9⟩) hS ?_
  simp only [Act.put,List.setIfInBounds_toArray,List.set_cons_zero,List.set_cons_succ]
  refine wpAnyH_ready (rs:= [2]) Kq9 Sp ?_
  refine AllReadyH.cons (o:={ dst:=some 51,op:=Op.call { callee:=Callee.value (Operand.func 45),args:= #[Operand.const (Value.string { data:= #[67,108,97,115,115,70,111,114,109,97,116,69,114,114,111,114] })],argTypes:= #[9] },type:=69,pos:= "load.go:85",after:= #[],guard:=none }) rfl (fun K hK=> ?_) AllReadyH.nil
  go_wp2_with (go_at_call 45;refine(bqN _ Dd9 _).mono ?_;rintro e w1 ⟨rfl,rfl⟩)
  refine hK.out _ _ hS (fun hS1=> ?_)
  clear hK K
  try simp only [Act.put,List.setIfInBounds_toArray,List.set_cons_zero,List.set_cons_succ]
  refine wpAnyH_ready (rs:= [3]) Kq9 Sp ?_
  refine AllReadyH.cons (o:={ dst:=none,op:=Op.store 58 (Operand.tmp 4) (Operand.tmp 49),type:=0,pos:= "load.go:85",after:= #[{ on:=0,ground:=Ground.data },{ on:=2,ground:=Ground.chain },{ on:=0,ground:=Ground.phase },{ on:=1,ground:=Ground.textOnly Departure.lateStores },{ on:=2,ground:=Ground.textOnly Departure.lateStoresUnsure }],guard:=none }) rfl (fun K hK=> ?_) AllReadyH.nil
  refine bqt (by rfl) ?_
  refine wp_store_row _ _ _ rfl w.heap.size #[.int .i64 0, .int .i64 0, .slice none 0 0, .int .i64 0, .int .i64 0, .int .i64 0, .slice none 0 0, .slice none 0 0, .slice none 0 0] rfl rfl _ _ D.out.rd.r4 Kq9 rfl Oc ?_
  refine hK.out _ _ ⟨(setRow_other _ w.heap.size G _ Om).trans D.out.gc,(setRow_other _ w.heap.size (G+1) _ Om).trans D.out.gt⟩ (fun hS2=> ?_)
  clear hK K
  simp only [Act.put,List.setIfInBounds_toArray,List.set_cons_zero,List.set_cons_succ]
  refine wpAnyH_ready (rs:= [4]) Kq9 Sp ?_
  refine AllReadyH.cons (o:={ dst:=none,op:=Op.store 39 (Operand.tmp 5) (Operand.tmp 50),type:=0,pos:= "load.go:85",after:= #[{ on:=1,ground:=Ground.data },{ on:=3,ground:=Ground.chain },{ on:=0,ground:=Ground.phase },{ on:=1,ground:=Ground.phase },{ on:=2,ground:=Ground.textOnly Departure.lateStoresUnsure },{ on:=3,ground:=Ground.phase }],guard:=none }) rfl (fun K hK=> ?_) AllReadyH.nil
  refine bqt (by rfl) ?_
  refine wp_store_row _ _ _ rfl (w.heap.size+1) #[.string ⟨#[]⟩, .string ⟨#[]⟩, .int .i64 0, .slice none 0 0, .slice none 0 0, .slice none 0 0] rfl rfl _ _ ((setRow_other _ w.heap.size (w.heap.size+1) _ Om).trans D.out.rd.r5) Kq9 rfl Oc ?_
  refine hK.out _ _ ⟨(setRow_other _ (w.heap.size+1) G _ Om).trans hS2.1,(setRow_other _ (w.heap.size+1) (G+1) _ Om).trans hS2.2⟩ (fun hS3=> ?_)
  clear hK K
  simp only [Act.put,List.setIfInBounds_toArray,List.set_cons_zero,List.set_cons_succ]
  refine wpAnyH_ready (rs:= [5]) Kq9 Sp ?_
  refine AllReadyH.cons (o:={ dst:=some 6,op:=Op.assign (Operand.tmp 51),type:=69,pos:= "load.go:85",after:= #[{ on:=2,ground:=Ground.data },{ on:=4,ground:=Ground.chain },{ on:=0,ground:=Ground.phase },{ on:=1,ground:=Ground.phase },{ on:=2,ground:=Ground.phase },{ on:=3,ground:=Ground.phase },{ on:=4,ground:=Ground.phase }],guard:=none }) rfl (fun K hK=> ?_) AllReadyH.nil
  go_simp
  refine hK.out _ _ hS3 (fun _=> ?_)
  clear hK K
  refine wpAnyH_done Kq9 ?_ _
  go_wp2_with fail
  refine bodyPost_ret (cqn rfl rfl rfl rfl ((setRow_other _ (w.heap.size+1) w.heap.size _ Om).trans (D.out.rd.r4.row [.int .i64 0, .int .i64 0, .slice none 0 0, .int .i64 0, .int .i64 0, .int .i64 0, .slice none 0 0, .slice none 0 0, .slice none 0 0])) (Bx.row (vs:=aq0) ((setRow_other _ w.heap.size (w.heap.size+1) _ Om).trans D.out.rd.r5) [.string ⟨#[]⟩, .string ⟨#[]⟩, .int .i64 0, .slice none 0 0, .slice none 0 0, .slice none 0 0]) rfl rfl Kq9 rfl rfl Kq9) rfl ?_
  exact⟨aqH (aqH D.out.rd.bel _ _ Nr) _ _ Om, [.int .i64 0, .int .i64 0, .slice none 0 0, .int .i64 0, .int .i64 0, .int .i64 0, .slice none 0 0, .slice none 0 0, .slice none 0 0], [.string ⟨#[]⟩, .string ⟨#[]⟩, .int .i64 0, .slice none 0 0, .slice none 0 0, .slice none 0 0],rfl,rfl,by simp [Value.oneCell'],by simp [Value.oneCell'],rfl⟩
 rw [hrp] at hq
 obtain⟨pv,iv,fv,mv,rfl,hca⟩:=hq
 have HOC:=Hq (HO.out c hrp)
 have HRQ:=Hq (show r=if CE c=12 then .error mqW else if CE c≠0 then .error iqD else if(aqX c).name=name then .ok (c,aqX c) else .error eqG by rw [←HR.out];unfold gqV;rw [hrp])
 rw [hz0] at hca
 obtain⟨Ap,kp,rfl,_⟩:=aqd hca.hpool
 obtain⟨Ai,ki,rfl,_⟩:=aqd hca.hifs
 obtain⟨Af,kf,rfl,_⟩:=aqd hca.hflds
 obtain⟨ms,_,hms2,_⟩:=id hca.hmths
 obtain⟨Am,km,rfl,_⟩:=aqd hms2
 have HCA:=Hq hca
 unfold aqc.cells
 clear hrp HR HO hca hms2 hz0
 have Z3:=Hq (aql w3 [.int .i64 0, .int .i64 0, .slice none 0 0, .int .i64 0, .int .i64 0, .int .i64 0, .slice none 0 0, .slice none 0 0, .slice none 0 0] 58)
 go_wp2_with (refine wpList_store_row rfl _ _ _ rfl w3.heap.size _ rfl rfl _ _ Z3.out Kq9 rfl Oc ?_;refine aqa ?_)
 refine aqb ?_
 have R4:=Hq ((R3.out.below (Rf9.alloc Nr (.cells #[.int .i64 0, .int .i64 0, .slice none 0 0, .int .i64 0, .int .i64 0, .int .i64 0, .slice none 0 0, .slice none 0 0, .slice none 0 0] 58))).row w3.heap.size #[.int .i64 c.minor, .int .i64 c.major, .slice Ap c.pool.length kp, .int .i64 c.acc, .int .i64 c.this, .int .i64 c.sup, .slice Ai c.ifs.length ki, .slice Af c.flds.length kf, .slice Am c.mths.length km] Om)
 have K4:=Hq (Z3.out.row [.int .i64 c.minor, .int .i64 c.major, .slice Ap c.pool.length kp, .int .i64 c.acc, .int .i64 c.this, .int .i64 c.sup, .slice Ai c.ifs.length ki, .slice Af c.flds.length kf, .slice Am c.mths.length km])
 have L4:=Hq (aqH ((Below.refl w3.heap.size w3).alloc Nr (.cells #[.int .i64 0, .int .i64 0, .slice none 0 0, .int .i64 0, .int .i64 0, .int .i64 0, .slice none 0 0, .slice none 0 0, .slice none 0 0] 58)) w3.heap.size #[.int .i64 c.minor, .int .i64 c.major, .slice Ap c.pool.length kp, .int .i64 c.acc, .int .i64 c.this, .int .i64 c.sup, .slice Ai c.ifs.length ki, .slice Af c.flds.length kf, .slice Am c.mths.length km] Nr)
 have hz4:((w3.alloc (.cells #[.int .i64 0, .int .i64 0, .slice none 0 0, .int .i64 0, .int .i64 0, .int .i64 0, .slice none 0 0, .slice none 0 0, .slice none 0 0] 58)).setRow w3.heap.size #[.int .i64 c.minor, .int .i64 c.major, .slice Ap c.pool.length kp, .int .i64 c.acc, .int .i64 c.this, .int .i64 c.sup, .slice Ai c.ifs.length ki, .slice Af c.flds.length kf, .slice Am c.mths.length km]).heap.size=w3.heap.size+1:=by simp
 generalize ((w3.alloc (.cells #[.int .i64 0, .int .i64 0, .slice none 0 0, .int .i64 0, .int .i64 0, .int .i64 0, .slice none 0 0, .slice none 0 0, .slice none 0 0] 58)).setRow w3.heap.size #[.int .i64 c.minor, .int .i64 c.major, .slice Ap c.pool.length kp, .int .i64 c.acc, .int .i64 c.this, .int .i64 c.sup, .slice Ai c.ifs.length ki, .slice Af c.flds.length kf, .slice Am c.mths.length km])=w4 at*
 obtain⟨G,hG⟩: ∃G,w3.heap.size=G:=⟨_,rfl⟩
 have L5:=Hq (L4.out.alloc Om (.cells #[.string ⟨#[]⟩, .string ⟨#[]⟩, .int .i64 0, .slice none 0 0, .slice none 0 0, .slice none 0 0] 39))
 rw [hG] at hz3 hz4 K4⊢
 have RG:=Hq (show RdG w G (G+1) [.int .i64 c.minor, .int .i64 c.major, .slice Ap c.pool.length kp, .int .i64 c.acc, .int .i64 c.this, .int .i64 c.sup, .slice Ai c.ifs.length ki, .slice Af c.flds.length kf, .slice Am c.mths.length km] [.string ⟨#[]⟩, .string ⟨#[]⟩, .int .i64 0, .slice none 0 0, .slice none 0 0, .slice none 0 0] (w4.alloc (.cells #[.string ⟨#[]⟩, .string ⟨#[]⟩, .int .i64 0, .slice none 0 0, .slice none 0 0, .slice none 0 0] 39)) from⟨R4.out.below (Rf9.alloc Nr _),K4.out.below (Rf9.alloc Nr _) K4.out.lt,aqh _ _ _ _ hz4.symm⟩)
 clear Z3 R4 K4 L4
 have HC5:=Hq (HCA.out.keep (aqC.of_below L5.out))
 go_wp2_with (first
  | (refine wpList_load_row rfl _ _ rfl G rfl _ _ _ _ RG.out.gc Tryz.underlying58 rfl Kq9 ?_)
  | (go_at_call 68;refine aqa ?_))
 refine aqb ?_
 refine(HOC.out _ _ _ _ _ _ HC5.out).mono ?_
 intro e w6 hq
 obtain⟨hb,hq⟩:=hq
 have RG6:=Hq (RG.out.below hb)
 have L6:=Hq (L5.out.trans (hb.mono L5.out.size))
 have HC6:=Hq (HC5.out.keep (aqC.of_below hb))
 clear hb RG L5 HC5 HOC
 obtain⟨E,hE⟩: ∃E,CE c=E:=⟨_,rfl⟩
 rw [hE] at HRQ hq
 clear hE
 rcases hq with⟨hE0,rfl⟩ | ⟨rfl,iv,fv,mv,rfl,hta⟩
 ·by_cases h12:E=12
  ·subst h12
   have HRR:r= .error mqW:=by rw [HRQ.out,if_pos rfl]
   subst HRR
   clear HRQ hE0
   unfold aq0
   go_wp2_with (refine wpList_store_row rfl _ _ _ rfl (G+1) _ rfl rfl _ _ RG6.out.gt Kq9 rfl Oc ?_;refine aqa ?_)
   refine aqb ?_
   have RG7:=Hq (show RdG w G (G+1) [.int .i64 c.minor, .int .i64 c.major, .slice Ap c.pool.length kp, .int .i64 c.acc, .int .i64 c.this, .int .i64 c.sup, .slice Ai c.ifs.length ki, .slice Af c.flds.length kf, .slice Am c.mths.length km] [.string ⟨#[]⟩, .string ⟨#[]⟩, .int .i64 0, .slice none 0 0, .slice none 0 0, .slice none 0 0] (w6.setRow (G+1) #[.string ⟨#[]⟩, .string ⟨#[]⟩, .int .i64 0, .slice none 0 0, .slice none 0 0, .slice none 0 0]) from⟨RG6.out.rd.row _ _ Om,(setRow_other w6 (G+1) G _ Om).trans RG6.out.gc,RG6.out.gt.row [.string ⟨#[]⟩, .string ⟨#[]⟩, .int .i64 0, .slice none 0 0, .slice none 0 0, .slice none 0 0]⟩)
   go_wp2_with fail
   have D:=Hq (RG7.out.below (Rf9.drew))
   refine wp_region_held_drew (S:=fun w'=>Bx w' G [.int .i64 c.minor, .int .i64 c.major, .slice Ap c.pool.length kp, .int .i64 c.acc, .int .i64 c.this, .int .i64 c.sup, .slice Ai c.ifs.length ki, .slice Af c.flds.length kf, .slice Am c.mths.length km] 58∧Bx w' (G+1) [.string ⟨#[]⟩, .string ⟨#[]⟩, .int .i64 0, .slice none 0 0, .slice none 0 0, .slice none 0 0] 39) rfl ⟨D.out.gc,D.out.gt⟩ (fun hS=> ?_)
   refine wpAnyH_take (i:=0) (oi:={ dst:=some 43,op:=Op.load 58 (Operand.tmp 9),type:=58,pos:= "load.go:83",after:= #[],guard:=none }) (v:= .agg #[.int .i64 c.minor, .int .i64 c.major, .slice Ap c.pool.length kp, .int .i64 c.acc, .int .i64 c.this, .int .i64 c.sup, .slice Ai c.ifs.length ki, .slice Af c.flds.length kf, .slice Am c.mths.length km]) rfl Kq9 Kq9 Kq9 (fun _ _ _ h=>h) (Or.inl ⟨by rfl,fun w' hw'=>bqz rfl rfl hw'.1 Tryz.underlying58 rfl Kq9⟩) hS ?_
   refine wpAnyH_take (i:=1) (oi:={ dst:=some 44,op:=Op.load 39 (Operand.tmp 12),type:=39,pos:= "load.go:83",after:= #[{ on:=3,ground:=Ground.gcOnly Departure.lateStores }],guard:=none }) (v:= .agg #[.string ⟨#[]⟩, .string ⟨#[]⟩, .int .i64 0, .slice none 0 0, .slice none 0 0, .slice none 0 0]) rfl Kq9 Kq9 Kq9 (fun _ _ _ h=>h) (Or.inl ⟨by rfl,fun w' hw'=>bqz rfl rfl hw'.2 Tryz.underlying39 rfl Kq9⟩) hS ?_
   simp only [Act.put,List.setIfInBounds_toArray,List.set_cons_zero,List.set_cons_succ]
   refine wpAnyH_ready (rs:= [2]) Kq9 Sp ?_
   refine AllReadyH.cons (o:={ dst:=some 45,op:=Op.call { callee:=Callee.value (Operand.func 45),args:= #[Operand.const (Value.string { data:= #[85,110,115,117,112,112,111,114,116,101,100,67,108,97,115,115,86,101,114,115,105,111,110,69,114,114,111,114] })],argTypes:= #[9] },type:=69,pos:= "load.go:83",after:= #[],guard:=none }) rfl (fun K hK=> ?_) AllReadyH.nil
   go_wp2_with (go_at_call 45;refine(bqN _ Dd9 _).mono ?_;rintro e w1 ⟨rfl,rfl⟩)
   refine hK.out _ _ hS (fun hS1=> ?_)
   clear hK K
   try simp only [Act.put,List.setIfInBounds_toArray,List.set_cons_zero,List.set_cons_succ]
   refine wpAnyH_ready (rs:= [3]) Kq9 Sp ?_
   refine AllReadyH.cons (o:={ dst:=none,op:=Op.store 58 (Operand.tmp 4) (Operand.tmp 43),type:=0,pos:= "load.go:83",after:= #[{ on:=0,ground:=Ground.data },{ on:=2,ground:=Ground.chain },{ on:=0,ground:=Ground.phase },{ on:=1,ground:=Ground.textOnly Departure.lateStores },{ on:=2,ground:=Ground.textOnly Departure.lateStoresUnsure }],guard:=none }) rfl (fun K hK=> ?_) AllReadyH.nil
   refine bqt (by rfl) ?_
   refine wp_store_row _ _ _ rfl w.heap.size #[.int .i64 c.minor, .int .i64 c.major, .slice Ap c.pool.length kp, .int .i64 c.acc, .int .i64 c.this, .int .i64 c.sup, .slice Ai c.ifs.length ki, .slice Af c.flds.length kf, .slice Am c.mths.length km] rfl rfl _ _ D.out.rd.r4 Kq9 rfl Oc ?_
   refine hK.out _ _ ⟨(setRow_other _ w.heap.size G _ Om).trans D.out.gc,(setRow_other _ w.heap.size (G+1) _ Om).trans D.out.gt⟩ (fun hS2=> ?_)
   clear hK K
   simp only [Act.put,List.setIfInBounds_toArray,List.set_cons_zero,List.set_cons_succ]
   refine wpAnyH_ready (rs:= [4]) Kq9 Sp ?_
   refine AllReadyH.cons (o:={ dst:=none,op:=Op.store 39 (Operand.tmp 5) (Operand.tmp 44),type:=0,pos:= "load.go:83",after:= #[{ on:=1,ground:=Ground.data },{ on:=3,ground:=Ground.chain },{ on:=0,ground:=Ground.phase },{ on:=1,ground:=Ground.phase },{ on:=2,ground:=Ground.textOnly Departure.lateStoresUnsure },{ on:=3,ground:=Ground.phase }],guard:=none }) rfl (fun K hK=> ?_) AllReadyH.nil
   refine bqt (by rfl) ?_
   refine wp_store_row _ _ _ rfl (w.heap.size+1) #[.string ⟨#[]⟩, .string ⟨#[]⟩, .int .i64 0, .slice none 0 0, .slice none 0 0, .slice none 0 0] rfl rfl _ _ ((setRow_other _ w.heap.size (w.heap.size+1) _ Om).trans D.out.rd.r5) Kq9 rfl Oc ?_
   refine hK.out _ _ ⟨(setRow_other _ (w.heap.size+1) G _ Om).trans hS2.1,(setRow_other _ (w.heap.size+1) (G+1) _ Om).trans hS2.2⟩ (fun hS3=> ?_)
   clear hK K
   simp only [Act.put,List.setIfInBounds_toArray,List.set_cons_zero,List.set_cons_succ]
   refine wpAnyH_ready (rs:= [5]) Kq9 Sp ?_
   refine AllReadyH.cons (o:={ dst:=some 6,op:=Op.assign (Operand.tmp 45),type:=69,pos:= "load.go:83",after:= #[{ on:=2,ground:=Ground.data },{ on:=4,ground:=Ground.chain },{ on:=0,ground:=Ground.phase },{ on:=1,ground:=Ground.phase },{ on:=2,ground:=Ground.phase },{ on:=3,ground:=Ground.phase },{ on:=4,ground:=Ground.phase }],guard:=none }) rfl (fun K hK=> ?_) AllReadyH.nil
   go_simp
   refine hK.out _ _ hS3 (fun _=> ?_)
   clear hK K
   refine wpAnyH_done Kq9 ?_ _
   go_wp2_with fail
   refine bodyPost_ret (cqn rfl rfl rfl rfl ((setRow_other _ (w.heap.size+1) w.heap.size _ Om).trans (D.out.rd.r4.row [.int .i64 c.minor, .int .i64 c.major, .slice Ap c.pool.length kp, .int .i64 c.acc, .int .i64 c.this, .int .i64 c.sup, .slice Ai c.ifs.length ki, .slice Af c.flds.length kf, .slice Am c.mths.length km])) (Bx.row (vs:=aq0) ((setRow_other _ w.heap.size (w.heap.size+1) _ Om).trans D.out.rd.r5) [.string ⟨#[]⟩, .string ⟨#[]⟩, .int .i64 0, .slice none 0 0, .slice none 0 0, .slice none 0 0]) rfl rfl Kq9 rfl rfl Kq9) rfl ?_
   exact⟨aqH (aqH D.out.rd.bel _ _ Nr) _ _ Om, [.int .i64 c.minor, .int .i64 c.major, .slice Ap c.pool.length kp, .int .i64 c.acc, .int .i64 c.this, .int .i64 c.sup, .slice Ai c.ifs.length ki, .slice Af c.flds.length kf, .slice Am c.mths.length km], [.string ⟨#[]⟩, .string ⟨#[]⟩, .int .i64 0, .slice none 0 0, .slice none 0 0, .slice none 0 0],rfl,rfl,by simp [Value.oneCell'],by simp [Value.oneCell'],rfl⟩
  have HRR:r= .error iqD:=by rw [HRQ.out,if_neg h12,if_pos hE0]
  subst HRR
  have he1:(E==12)=false:=by simpa using h12
  have he2:(E !=0)=true:=by simpa using hE0
  clear HRQ hE0 h12
  unfold aq0
  go_wp2_with (refine wpList_store_row rfl _ _ _ rfl (G+1) _ rfl rfl _ _ RG6.out.gt Kq9 rfl Oc ?_;refine aqa ?_)
  refine aqb ?_
  have RG7:=Hq (show RdG w G (G+1) [.int .i64 c.minor, .int .i64 c.major, .slice Ap c.pool.length kp, .int .i64 c.acc, .int .i64 c.this, .int .i64 c.sup, .slice Ai c.ifs.length ki, .slice Af c.flds.length kf, .slice Am c.mths.length km] [.string ⟨#[]⟩, .string ⟨#[]⟩, .int .i64 0, .slice none 0 0, .slice none 0 0, .slice none 0 0] (w6.setRow (G+1) #[.string ⟨#[]⟩, .string ⟨#[]⟩, .int .i64 0, .slice none 0 0, .slice none 0 0, .slice none 0 0]) from⟨RG6.out.rd.row _ _ Om,(setRow_other w6 (G+1) G _ Om).trans RG6.out.gc,RG6.out.gt.row [.string ⟨#[]⟩, .string ⟨#[]⟩, .int .i64 0, .slice none 0 0, .slice none 0 0, .slice none 0 0]⟩)
  go_wp2_with fail
  have D:=Hq (RG7.out.below (Rf9.drew))
  refine wp_region_held_drew (S:=fun w'=>Bx w' G [.int .i64 c.minor, .int .i64 c.major, .slice Ap c.pool.length kp, .int .i64 c.acc, .int .i64 c.this, .int .i64 c.sup, .slice Ai c.ifs.length ki, .slice Af c.flds.length kf, .slice Am c.mths.length km] 58∧Bx w' (G+1) [.string ⟨#[]⟩, .string ⟨#[]⟩, .int .i64 0, .slice none 0 0, .slice none 0 0, .slice none 0 0] 39) rfl ⟨D.out.gc,D.out.gt⟩ (fun hS=> ?_)
  refine wpAnyH_take (i:=0) (oi:={ dst:=some 49,op:=Op.load 58 (Operand.tmp 9),type:=58,pos:= "load.go:85",after:= #[],guard:=none }) (v:= .agg #[.int .i64 c.minor, .int .i64 c.major, .slice Ap c.pool.length kp, .int .i64 c.acc, .int .i64 c.this, .int .i64 c.sup, .slice Ai c.ifs.length ki, .slice Af c.flds.length kf, .slice Am c.mths.length km]) rfl Kq9 Kq9 Kq9 (fun _ _ _ h=>h) (Or.inl ⟨by rfl,fun w' hw'=>bqz rfl rfl hw'.1 Tryz.underlying58 rfl Kq9⟩) hS ?_
  refine wpAnyH_take (i:=1) (oi:={ dst:=some 50,op:=Op.load 39 (Operand.tmp 12),type:=39,pos:= "load.go:85",after:= #[{ on:=3,ground:=Ground.gcOnly Departure.lateStores }],guard:=none }) (v:= .agg #[.string ⟨#[]⟩, .string ⟨#[]⟩, .int .i64 0, .slice none 0 0, .slice none 0 0, .slice none 0 0]) rfl Kq9 Kq9 Kq9 (fun _ _ _ h=>h) (Or.inl ⟨by rfl,fun w' hw'=>bqz rfl rfl hw'.2 Tryz.underlying39 rfl Kq9⟩) hS ?_
  simp only [Act.put,List.setIfInBounds_toArray,List.set_cons_zero,List.set_cons_succ]
  refine wpAnyH_ready (rs:= [2]) Kq9 Sp ?_
  refine AllReadyH.cons (o:={ dst:=some 51,op:=Op.call { callee:=Callee.value (Operand.func 45),args:= #[Operand.const (Value.string { data:= #[67,108,97,115,115,70,111,114,109,97,116,69,114,114,111,114] })],argTypes:= #[9] },type:=69,pos:= "load.go:85",after:= #[],guard:=none }) rfl (fun K hK=> ?_) AllReadyH.nil
  go_wp2_with (go_at_call 45;refine(bqN _ Dd9 _).mono ?_;rintro e w1 ⟨rfl,rfl⟩)
  refine hK.out _ _ hS (fun hS1=> ?_)
  clear hK K
  try simp only [Act.put,List.setIfInBounds_toArray,List.set_cons_zero,List.set_cons_succ]
  refine wpAnyH_ready (rs:= [3]) Kq9 Sp ?_
  refine AllReadyH.cons (o:={ dst:=none,op:=Op.store 58 (Operand.tmp 4) (Operand.tmp 49),type:=0,pos:= "load.go:85",after:= #[{ on:=0,ground:=Ground.data },{ on:=2,ground:=Ground.chain },{ on:=0,ground:=Ground.phase },{ on:=1,ground:=Ground.textOnly Departure.lateStores },{ on:=2,ground:=Ground.textOnly Departure.lateStoresUnsure }],guard:=none }) rfl (fun K hK=> ?_) AllReadyH.nil
  refine bqt (by rfl) ?_
  refine wp_store_row _ _ _ rfl w.heap.size #[.int .i64 c.minor, .int .i64 c.major, .slice Ap c.pool.length kp, .int .i64 c.acc, .int .i64 c.this, .int .i64 c.sup, .slice Ai c.ifs.length ki, .slice Af c.flds.length kf, .slice Am c.mths.length km] rfl rfl _ _ D.out.rd.r4 Kq9 rfl Oc ?_
  refine hK.out _ _ ⟨(setRow_other _ w.heap.size G _ Om).trans D.out.gc,(setRow_other _ w.heap.size (G+1) _ Om).trans D.out.gt⟩ (fun hS2=> ?_)
  clear hK K
  simp only [Act.put,List.setIfInBounds_toArray,List.set_cons_zero,List.set_cons_succ]
  refine wpAnyH_ready (rs:= [4]) Kq9 Sp ?_
  refine AllReadyH.cons (o:={ dst:=none,op:=Op.store 39 (Operand.tmp 5) (Operand.tmp 50),type:=0,pos:= "load.go:85",after:= #[{ on:=1,ground:=Ground.data },{ on:=3,ground:=Ground.chain },{ on:=0,ground:=Ground.phase },{ on:=1,ground:=Ground.phase },{ on:=2,ground:=Ground.textOnly Departure.lateStoresUnsure },{ on:=3,ground:=Ground.phase }],guard:=none }) rfl (fun K hK=> ?_) AllReadyH.nil
  refine bqt (by rfl) ?_
  refine wp_store_row _ _ _ rfl (w.heap.size+1) #[.string ⟨#[]⟩, .string ⟨#[]⟩, .int .i64 0, .slice none 0 0, .slice none 0 0, .slice none 0 0] rfl rfl _ _ ((setRow_other _ w.heap.size (w.heap.size+1) _ Om).trans D.out.rd.r5) Kq9 rfl Oc ?_
  refine hK.out _ _ ⟨(setRow_other _ (w.heap.size+1) G _ Om).trans hS2.1,(setRow_other _ (w.heap.size+1) (G+1) _ Om).trans hS2.2⟩ (fun hS3=> ?_)
  clear hK K
  simp only [Act.put,List.setIfInBounds_toArray,List.set_cons_zero,List.set_cons_succ]
  refine wpAnyH_ready (rs:= [5]) Kq9 Sp ?_
  refine AllReadyH.cons (o:={ dst:=some 6,op:=Op.assign (Operand.tmp 51),type:=69,pos:= "load.go:85",after:= #[{ on:=2,ground:=Ground.data },{ on:=4,ground:=Ground.chain },{ on:=0,ground:=Ground.phase },{ on:=1,ground:=Ground.phase },{ on:=2,ground:=Ground.phase },{ on:=3,ground:=Ground.phase },{ on:=4,ground:=Ground.phase }],guard:=none }) rfl (fun K hK=> ?_) AllReadyH.nil
  go_simp
  refine hK.out _ _ hS3 (fun _=> ?_)
  clear hK K
  refine wpAnyH_done Kq9 ?_ _
  go_wp2_with fail
  refine bodyPost_ret (cqn rfl rfl rfl rfl ((setRow_other _ (w.heap.size+1) w.heap.size _ Om).trans (D.out.rd.r4.row [.int .i64 c.minor, .int .i64 c.major, .slice Ap c.pool.length kp, .int .i64 c.acc, .int .i64 c.this, .int .i64 c.sup, .slice Ai c.ifs.length ki, .slice Af c.flds.length kf, .slice Am c.mths.length km])) (Bx.row (vs:=aq0) ((setRow_other _ w.heap.size (w.heap.size+1) _ Om).trans D.out.rd.r5) [.string ⟨#[]⟩, .string ⟨#[]⟩, .int .i64 0, .slice none 0 0, .slice none 0 0, .slice none 0 0]) rfl rfl Kq9 rfl rfl Kq9) rfl ?_
  exact⟨aqH (aqH D.out.rd.bel _ _ Nr) _ _ Om, [.int .i64 c.minor, .int .i64 c.major, .slice Ap c.pool.length kp, .int .i64 c.acc, .int .i64 c.this, .int .i64 c.sup, .slice Ai c.ifs.length ki, .slice Af c.flds.length kf, .slice Am c.mths.length km], [.string ⟨#[]⟩, .string ⟨#[]⟩, .int .i64 0, .slice none 0 0, .slice none 0 0, .slice none 0 0],rfl,rfl,by simp [Value.oneCell'],by simp [Value.oneCell'],rfl⟩
 obtain⟨Bi,ji,rfl,_⟩:=aqd hta.hi
 obtain⟨Bf,jf,rfl,_⟩:=aqd hta.hf
 obtain⟨Bm,jm,rfl,_⟩:=aqd hta.hm
 have HTA:=Hq hta
 unfold cqO.vals
 clear hta
 go_wp2_with (refine wpList_store_row rfl _ _ _ rfl (G+1) _ rfl rfl _ _ RG6.out.gt Kq9 rfl Oc ?_;refine aqa ?_)
 refine aqb ?_
 have RG7:=Hq (show RdG w G (G+1) [.int .i64 c.minor, .int .i64 c.major, .slice Ap c.pool.length kp, .int .i64 c.acc, .int .i64 c.this, .int .i64 c.sup, .slice Ai c.ifs.length ki, .slice Af c.flds.length kf, .slice Am c.mths.length km] [.string (aqX c).name, .string (aqX c).sup, .int .i64 (aqX c).acc, .slice Bi (aqX c).ifs.length ji, .slice Bf (aqX c).flds.length jf, .slice Bm (aqX c).mths.length jm] (w6.setRow (G+1) #[.string (aqX c).name, .string (aqX c).sup, .int .i64 (aqX c).acc, .slice Bi (aqX c).ifs.length ji, .slice Bf (aqX c).flds.length jf, .slice Bm (aqX c).mths.length jm]) from⟨RG6.out.rd.row _ _ Om,(setRow_other w6 (G+1) G _ Om).trans RG6.out.gc,RG6.out.gt.row [.string (aqX c).name, .string (aqX c).sup, .int .i64 (aqX c).acc, .slice Bi (aqX c).ifs.length ji, .slice Bf (aqX c).flds.length jf, .slice Bm (aqX c).mths.length jm]⟩)
 have L7:=Hq (aqH L6.out (G+1) #[.string (aqX c).name, .string (aqX c).sup, .int .i64 (aqX c).acc, .slice Bi (aqX c).ifs.length ji, .slice Bf (aqX c).flds.length jf, .slice Bm (aqX c).mths.length jm] Om)
 have HC7:=Hq (HCA.out.keep (aqC.of_below L7.out))
 have HT7:=Hq (HTA.out.keep (aqC.of_but (iqE w6 (G+1) #[.string (aqX c).name, .string (aqX c).sup, .int .i64 (aqX c).acc, .slice Bi (aqX c).ifs.length ji, .slice Bf (aqX c).flds.length jf, .slice Bm (aqX c).mths.length jm]) (fun g hg hm=>by simp at hg hm;omega)))
 generalize w6.setRow (G+1) #[.string (aqX c).name, .string (aqX c).sup, .int .i64 (aqX c).acc, .slice Bi (aqX c).ifs.length ji, .slice Bf (aqX c).flds.length jf, .slice Bm (aqX c).mths.length jm]=w7 at*
 have t0:=RG7.out.gt.cell 0 rfl
 by_cases hnm:(aqX c).name=name
 ·have HRR:r= .ok (c,aqX c):=by rw [HRQ.out,if_neg Om,if_neg Om,if_pos hnm]
  subst HRR
  have hnb:((aqX c).name.toList==name.toList)=true:=by rw [hnm];simp
  have hnm':=Hq hnm
  clear HRQ hnm
  go_wp2_with fail
  have D:=Hq (RG7.out.below (Rf9.drew))
  refine wp_region_held_drew (S:=fun w'=>Bx w' G [.int .i64 c.minor, .int .i64 c.major, .slice Ap c.pool.length kp, .int .i64 c.acc, .int .i64 c.this, .int .i64 c.sup, .slice Ai c.ifs.length ki, .slice Af c.flds.length kf, .slice Am c.mths.length km] 58∧Bx w' (G+1) [.string (aqX c).name, .string (aqX c).sup, .int .i64 (aqX c).acc, .slice Bi (aqX c).ifs.length ji, .slice Bf (aqX c).flds.length jf, .slice Bm (aqX c).mths.length jm] 39) rfl ⟨D.out.gc,D.out.gt⟩ (fun hS=> ?_)
  refine wpAnyH_take (i:=0) (oi:={ dst:=some 60,op:=Op.load 58 (Operand.tmp 9),type:=58,pos:= "load.go:89",after:= #[],guard:=none }) (v:= .agg #[.int .i64 c.minor, .int .i64 c.major, .slice Ap c.pool.length kp, .int .i64 c.acc, .int .i64 c.this, .int .i64 c.sup, .slice Ai c.ifs.length ki, .slice Af c.flds.length kf, .slice Am c.mths.length km]) rfl Kq9 Kq9 Kq9 (fun _ _ _ h=>h) (Or.inl ⟨by rfl,fun w' hw'=>bqz rfl rfl hw'.1 Tryz.underlying58 rfl Kq9⟩) hS ?_
  refine wpAnyH_take (i:=1) (oi:={ dst:=some 61,op:=Op.load 39 (Operand.tmp 12),type:=39,pos:= "load.go:89",after:= #[{ on:=2,ground:=Ground.gcOnly Departure.lateStores }],guard:=none }) (v:= .agg #[.string (aqX c).name, .string (aqX c).sup, .int .i64 (aqX c).acc, .slice Bi (aqX c).ifs.length ji, .slice Bf (aqX c).flds.length jf, .slice Bm (aqX c).mths.length jm]) rfl Kq9 Kq9 Kq9 (fun _ _ _ h=>h) (Or.inl ⟨by rfl,fun w' hw'=>bqz rfl rfl hw'.2 Tryz.underlying39 rfl Kq9⟩) hS ?_
  simp only [Act.put,List.setIfInBounds_toArray,List.set_cons_zero,List.set_cons_succ]
  refine wpAnyH_ready (rs:= [2]) Kq9 Sp ?_
  refine AllReadyH.cons (o:={ dst:=none,op:=Op.store 58 (Operand.tmp 4) (Operand.tmp 60),type:=0,pos:= "load.go:89",after:= #[{ on:=0,ground:=Ground.data },{ on:=0,ground:=Ground.phase },{ on:=1,ground:=Ground.textOnly Departure.lateStores }],guard:=none }) rfl (fun K hK=> ?_) AllReadyH.nil
  refine bqt (by rfl) ?_
  refine wp_store_row _ _ _ rfl w.heap.size #[.int .i64 c.minor, .int .i64 c.major, .slice Ap c.pool.length kp, .int .i64 c.acc, .int .i64 c.this, .int .i64 c.sup, .slice Ai c.ifs.length ki, .slice Af c.flds.length kf, .slice Am c.mths.length km] rfl rfl _ _ D.out.rd.r4 Kq9 rfl Oc ?_
  refine hK.out _ _ ⟨(setRow_other _ w.heap.size G _ Om).trans D.out.gc,(setRow_other _ w.heap.size (G+1) _ Om).trans D.out.gt⟩ (fun hS2=> ?_)
  clear hK K
  simp only [Act.put,List.setIfInBounds_toArray,List.set_cons_zero,List.set_cons_succ]
  refine wpAnyH_ready (rs:= [3]) Kq9 Sp ?_
  refine AllReadyH.cons (o:={ dst:=none,op:=Op.store 39 (Operand.tmp 5) (Operand.tmp 61),type:=0,pos:= "load.go:89",after:= #[{ on:=1,ground:=Ground.data },{ on:=2,ground:=Ground.chain },{ on:=0,ground:=Ground.phase },{ on:=1,ground:=Ground.phase },{ on:=2,ground:=Ground.phase }],guard:=none }) rfl (fun K hK=> ?_) AllReadyH.nil
  refine bqt (by rfl) ?_
  refine wp_store_row _ _ _ rfl (w.heap.size+1) #[.string (aqX c).name, .string (aqX c).sup, .int .i64 (aqX c).acc, .slice Bi (aqX c).ifs.length ji, .slice Bf (aqX c).flds.length jf, .slice Bm (aqX c).mths.length jm] rfl rfl _ _ ((setRow_other _ w.heap.size (w.heap.size+1) _ Om).trans D.out.rd.r5) Kq9 rfl Oc ?_
  refine hK.out _ _ ⟨(setRow_other _ (w.heap.size+1) G _ Om).trans hS2.1,(setRow_other _ (w.heap.size+1) (G+1) _ Om).trans hS2.2⟩ (fun hS3=> ?_)
  clear hK K
  simp only [Act.put,List.setIfInBounds_toArray,List.set_cons_zero,List.set_cons_succ]
  refine wpAnyH_ready (rs:= [4]) Kq9 Sp ?_
  refine AllReadyH.cons (o:={ dst:=some 6,op:=Op.assign (Operand.const Value.nilIface),type:=69,pos:= "load.go:89",after:= #[{ on:=3,ground:=Ground.chain },{ on:=0,ground:=Ground.phase },{ on:=1,ground:=Ground.phase },{ on:=2,ground:=Ground.phase },{ on:=3,ground:=Ground.phase }],guard:=none }) rfl (fun K hK=> ?_) AllReadyH.nil
  go_simp
  refine hK.out _ _ hS3 (fun _=> ?_)
  clear hK K
  refine wpAnyH_done Kq9 ?_ _
  go_wp2_with fail
  refine bodyPost_ret (cqn rfl rfl rfl rfl ((setRow_other _ (w.heap.size+1) w.heap.size _ Om).trans (D.out.rd.r4.row [.int .i64 c.minor, .int .i64 c.major, .slice Ap c.pool.length kp, .int .i64 c.acc, .int .i64 c.this, .int .i64 c.sup, .slice Ai c.ifs.length ki, .slice Af c.flds.length kf, .slice Am c.mths.length km])) (Bx.row (vs:=aq0) ((setRow_other _ w.heap.size (w.heap.size+1) _ Om).trans D.out.rd.r5) [.string (aqX c).name, .string (aqX c).sup, .int .i64 (aqX c).acc, .slice Bi (aqX c).ifs.length ji, .slice Bf (aqX c).flds.length jf, .slice Bm (aqX c).mths.length jm]) rfl rfl Kq9 rfl rfl Kq9) rfl ?_
  have hkk:=fun(ok:Nat→Prop) (hok: ∀g,ok g→w.heap.size+2≤g)=> ((aqC.of_below (ok:=ok) ((Below.refl w7.heap.size w7).drew)).trans (aqC.of_but (ok:=ok) (iqE w7.drew w.heap.size #[.int .i64 c.minor, .int .i64 c.major, .slice Ap c.pool.length kp, .int .i64 c.acc, .int .i64 c.this, .int .i64 c.sup, .slice Ai c.ifs.length ki, .slice Af c.flds.length kf, .slice Am c.mths.length km]) (fun g hg hm=>by have:=hok g hg;simp at hm;omega))).trans (aqC.of_but (ok:=ok) (iqE (w7.drew.setRow w.heap.size #[.int .i64 c.minor, .int .i64 c.major, .slice Ap c.pool.length kp, .int .i64 c.acc, .int .i64 c.this, .int .i64 c.sup, .slice Ai c.ifs.length ki, .slice Af c.flds.length kf, .slice Am c.mths.length km]) (w.heap.size+1) #[.string (aqX c).name, .string (aqX c).sup, .int .i64 (aqX c).acc, .slice Bi (aqX c).ifs.length ji, .slice Bf (aqX c).flds.length jf, .slice Bm (aqX c).mths.length jm]) (fun g hg hm=>by have:=hok g hg;simp at hm;omega))
  exact⟨aqH (aqH D.out.rd.bel _ _ Nr) _ _ Om,_,_,_,_,_,_,_,rfl,(HC7.out.keep (hkk _ (fun g hg=>hg))).mono (fun g _ hg=>by omega),(HT7.out.keep (hkk _ (fun g hg=>by simp at hg;omega))).mono (fun g _ hg=>by simp at hg;omega)⟩
 have HRR:r= .error eqG:=by rw [HRQ.out,if_neg Om,if_neg Om,if_neg hnm]
 subst HRR
 have hnb:((aqX c).name.toList==name.toList)=false:=oqa hnm
 clear HRQ hnm
 go_wp2_with fail
 have D:=Hq (RG7.out.below (Rf9.drew))
 refine wp_region_held_drew (S:=fun w'=>Bx w' G [.int .i64 c.minor, .int .i64 c.major, .slice Ap c.pool.length kp, .int .i64 c.acc, .int .i64 c.this, .int .i64 c.sup, .slice Ai c.ifs.length ki, .slice Af c.flds.length kf, .slice Am c.mths.length km] 58∧Bx w' (G+1) [.string (aqX c).name, .string (aqX c).sup, .int .i64 (aqX c).acc, .slice Bi (aqX c).ifs.length ji, .slice Bf (aqX c).flds.length jf, .slice Bm (aqX c).mths.length jm] 39) rfl ⟨D.out.gc,D.out.gt⟩ (fun hS=> ?_)
 refine wpAnyH_take (i:=0) (oi:={ dst:=some 57,op:=Op.load 58 (Operand.tmp 9),type:=58,pos:= "load.go:87",after:= #[],guard:=none }) (v:= .agg #[.int .i64 c.minor, .int .i64 c.major, .slice Ap c.pool.length kp, .int .i64 c.acc, .int .i64 c.this, .int .i64 c.sup, .slice Ai c.ifs.length ki, .slice Af c.flds.length kf, .slice Am c.mths.length km]) rfl Kq9 Kq9 Kq9 (fun _ _ _ h=>h) (Or.inl ⟨by rfl,fun w' hw'=>bqz rfl rfl hw'.1 Tryz.underlying58 rfl Kq9⟩) hS ?_
 refine wpAnyH_take (i:=1) (oi:={ dst:=some 58,op:=Op.load 39 (Operand.tmp 12),type:=39,pos:= "load.go:87",after:= #[{ on:=3,ground:=Ground.gcOnly Departure.lateStores }],guard:=none }) (v:= .agg #[.string (aqX c).name, .string (aqX c).sup, .int .i64 (aqX c).acc, .slice Bi (aqX c).ifs.length ji, .slice Bf (aqX c).flds.length jf, .slice Bm (aqX c).mths.length jm]) rfl Kq9 Kq9 Kq9 (fun _ _ _ h=>h) (Or.inl ⟨by rfl,fun w' hw'=>bqz rfl rfl hw'.2 Tryz.underlying39 rfl Kq9⟩) hS ?_
 simp only [Act.put,List.setIfInBounds_toArray,List.set_cons_zero,List.set_cons_succ]
 refine wpAnyH_ready (rs:= [2]) Kq9 Sp ?_
 refine AllReadyH.cons (o:={ dst:=some 59,op:=Op.call { callee:=Callee.value (Operand.func 45),args:= #[Operand.const (Value.string { data:= #[78,111,67,108,97,115,115,68,101,102,70,111,117,110,100,69,114,114,111,114] })],argTypes:= #[9] },type:=69,pos:= "load.go:87",after:= #[],guard:=none }) rfl (fun K hK=> ?_) AllReadyH.nil
 go_wp2_with (go_at_call 45;refine(bqN _ Dd9 _).mono ?_;rintro e w1 ⟨rfl,rfl⟩)
 refine hK.out _ _ hS (fun hS1=> ?_)
 clear hK K
 try simp only [Act.put,List.setIfInBounds_toArray,List.set_cons_zero,List.set_cons_succ]
 refine wpAnyH_ready (rs:= [3]) Kq9 Sp ?_
 refine AllReadyH.cons (o:={ dst:=none,op:=Op.store 58 (Operand.tmp 4) (Operand.tmp 57),type:=0,pos:= "load.go:87",after:= #[{ on:=0,ground:=Ground.data },{ on:=2,ground:=Ground.chain },{ on:=0,ground:=Ground.phase },{ on:=1,ground:=Ground.textOnly Departure.lateStores },{ on:=2,ground:=Ground.textOnly Departure.lateStoresUnsure }],guard:=none }) rfl (fun K hK=> ?_) AllReadyH.nil
 refine bqt (by rfl) ?_
 refine wp_store_row _ _ _ rfl w.heap.size #[.int .i64 c.minor, .int .i64 c.major, .slice Ap c.pool.length kp, .int .i64 c.acc, .int .i64 c.this, .int .i64 c.sup, .slice Ai c.ifs.length ki, .slice Af c.flds.length kf, .slice Am c.mths.length km] rfl rfl _ _ D.out.rd.r4 Kq9 rfl Oc ?_
 refine hK.out _ _ ⟨(setRow_other _ w.heap.size G _ Om).trans D.out.gc,(setRow_other _ w.heap.size (G+1) _ Om).trans D.out.gt⟩ (fun hS2=> ?_)
 clear hK K
 simp only [Act.put,List.setIfInBounds_toArray,List.set_cons_zero,List.set_cons_succ]
 refine wpAnyH_ready (rs:= [4]) Kq9 Sp ?_
 refine AllReadyH.cons (o:={ dst:=none,op:=Op.store 39 (Operand.tmp 5) (Operand.tmp 58),type:=0,pos:= "load.go:87",after:= #[{ on:=1,ground:=Ground.data },{ on:=3,ground:=Ground.chain },{ on:=0,ground:=Ground.phase },{ on:=1,ground:=Ground.phase },{ on:=2,ground:=Ground.textOnly Departure.lateStoresUnsure },{ on:=3,ground:=Ground.phase }],guard:=none }) rfl (fun K hK=> ?_) AllReadyH.nil
 refine bqt (by rfl) ?_
 refine wp_store_row _ _ _ rfl (w.heap.size+1) #[.string (aqX c).name, .string (aqX c).sup, .int .i64 (aqX c).acc, .slice Bi (aqX c).ifs.length ji, .slice Bf (aqX c).flds.length jf, .slice Bm (aqX c).mths.length jm] rfl rfl _ _ ((setRow_other _ w.heap.size (w.heap.size+1) _ Om).trans D.out.rd.r5) Kq9 rfl Oc ?_
 refine hK.out _ _ ⟨(setRow_other _ (w.heap.size+1) G _ Om).trans hS2.1,(setRow_other _ (w.heap.size+1) (G+1) _ Om).trans hS2.2⟩ (fun hS3=> ?_)
 clear hK K
 simp only [Act.put,List.setIfInBounds_toArray,List.set_cons_zero,List.set_cons_succ]
 refine wpAnyH_ready (rs:= [5]) Kq9 Sp ?_
 refine AllReadyH.cons (o:={ dst:=some 6,op:=Op.assign (Operand.tmp 59),type:=69,pos:= "load.go:87",after:= #[{ on:=2,ground:=Ground.data },{ on:=4,ground:=Ground.chain },{ on:=0,ground:=Ground.phase },{ on:=1,ground:=Ground.phase },{ on:=2,ground:=Ground.phase },{ on:=3,ground:=Ground.phase },{ on:=4,ground:=Ground.phase }],guard:=none }) rfl (fun K hK=> ?_) AllReadyH.nil
 go_simp
 refine hK.out _ _ hS3 (fun _=> ?_)
 clear hK K
 refine wpAnyH_done Kq9 ?_ _
 go_wp2_with fail
 refine bodyPost_ret (cqn rfl rfl rfl rfl ((setRow_other _ (w.heap.size+1) w.heap.size _ Om).trans (D.out.rd.r4.row [.int .i64 c.minor, .int .i64 c.major, .slice Ap c.pool.length kp, .int .i64 c.acc, .int .i64 c.this, .int .i64 c.sup, .slice Ai c.ifs.length ki, .slice Af c.flds.length kf, .slice Am c.mths.length km])) (Bx.row (vs:=aq0) ((setRow_other _ w.heap.size (w.heap.size+1) _ Om).trans D.out.rd.r5) [.string (aqX c).name, .string (aqX c).sup, .int .i64 (aqX c).acc, .slice Bi (aqX c).ifs.length ji, .slice Bf (aqX c).flds.length jf, .slice Bm (aqX c).mths.length jm]) rfl rfl Kq9 rfl rfl Kq9) rfl ?_
 exact⟨aqH (aqH D.out.rd.bel _ _ Nr) _ _ Om, [.int .i64 c.minor, .int .i64 c.major, .slice Ap c.pool.length kp, .int .i64 c.acc, .int .i64 c.this, .int .i64 c.sup, .slice Ai c.ifs.length ki, .slice Af c.flds.length kf, .slice Am c.mths.length km], [.string (aqX c).name, .string (aqX c).sup, .int .i64 (aqX c).acc, .slice Bi (aqX c).ifs.length ji, .slice Bf (aqX c).flds.length jf, .slice Bm (aqX c).mths.length jm],rfl,rfl,by simp [Value.oneCell'],by simp [Value.oneCell'],rfl⟩
end Go.Proofs.YtdbniocnjhfhdaaGreatDoor
