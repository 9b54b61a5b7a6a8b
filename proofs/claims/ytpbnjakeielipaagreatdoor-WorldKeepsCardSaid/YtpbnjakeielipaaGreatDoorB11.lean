/-
  What the laws rest on, part 11: walks of the program's functions and plain laws. Conditions: none but those that each theorem names.
-/
import Derived.Test.YtpbnjakeielipaaGreatDoorB10
import Derived.Test.YtpbnjakeielipaaGreatDoorB00
import Derived.Test.YtpbnjakeielipaaGreatDoorB05
set_option linter.unusedSimpArgs false
set_option linter.unusedVariables false
set_option maxRecDepth 100000
set_option maxHeartbeats 2000000
namespace Go.Proofs.YtpbnjakeielipaaGreatDoor
open Go Go.RowKit Lib Go.Maps
structure RdW (w wk:World):Prop where
 bel:Below w.heap.size w wk
 r4:Bx wk w.heap.size zeroClass 104
 r5:Bx wk (w.heap.size+1) zeroTyp 75
theorem RdW.below {w wk wq:World} (h:RdW w wk) (hb:Below wk.heap.size wk wq):RdW w wq:=⟨h.bel.trans (hb.mono h.bel.size),h.r4.below hb h.r4.lt,h.r5.below hb h.r5.lt⟩
theorem RdW.row {w wk:World} (h:RdW w wk) (g:Nat) (cs:Array Value) (hg:w.heap.size+2≤g):RdW w (wk.setRow g cs):=⟨h.bel.trans ⟨rfl,rfl,rfl,by simp,fun k hk=>setRow_other _ _ _ _ (by omega)⟩,(setRow_other wk g _ cs (by omega)).trans h.r4,(setRow_other wk g _ cs (by omega)).trans h.r5⟩
structure RdG (w:World) (G H:Nat) (cs ts:List Value) (wk:World):Prop where
 rd:RdW w wk
 gc:Bx wk G cs 104
 gt:Bx wk H ts 75
theorem RdG.below {w:World} {G H:Nat} {cs ts:List Value} {wk wq:World} (h:RdG w G H cs ts wk) (hb:Below wk.heap.size wk wq):RdG w G H cs ts wq:=⟨h.rd.below hb,h.gc.below hb h.gc.lt,h.gt.below hb h.gt.lt⟩
theorem below_row {B:Nat} {a w:World} (h:Below B a w) (g:Nat) (cs:Array Value) (hg:B≤g):Below B a (w.setRow g cs):=h.trans ⟨rfl,rfl,rfl,by simp,fun k hk=>setRow_other w g k cs (by omega)⟩
theorem zeroC_len:zeroClass.length=9∧zeroTyp.length=6∧(∀u∈zeroClass,u.oneCell'=true)∧(∀u∈zeroTyp,u.oneCell'=true):=by decide
theorem but_row (w:World) (g:Nat) (cs:Array Value):But w.heap.size [g] w (w.setRow g cs):=⟨rfl,rfl,rfl,by simp,fun k _ hm=>setRow_other _ _ _ _ (by simpa using hm)⟩
theorem lread_none (lb bd n sz:Nat) (fd:List UInt8→Option Value) (name:ByteArray) (w:World) (hc:w.cell? ⟨lb,0,none⟩=some (.map (some bd))) (hl:lb<w.heap.size) (hM:MapS w Tryz.prog 9 bd n fd sz) (hs:name.size≤maxLen) (hn:fd name.data.toList=none):
  Calls Tryz.prog 73 #[.pointer (some ⟨lb,0,none⟩), .string name] w (LReadPost (.error noDefB) w):=by
 have HM:=Lib.hid hM
 have hbd:=hM.lt
 have HN:=Lib.hid hn
 have R0:=Lib.hid (show RdW w ((w.alloc (.cells #[.int .i64 0, .int .i64 0, .slice none 0 0, .int .i64 0, .int .i64 0, .int .i64 0, .slice none 0 0, .slice none 0 0, .slice none 0 0] 104)).alloc (.cells #[.string ⟨#[]⟩, .string ⟨#[]⟩, .int .i64 0, .slice none 0 0, .slice none 0 0, .slice none 0 0] 75)) from⟨((Below.refl _ _).alloc (Nat.le_refl _) _).alloc (by simp) _,(bx_new w zeroClass _).below ((Below.refl _ _).alloc (Nat.le_refl _) _) (by simp),bx_new_at _ zeroTyp _ _ (by simp)⟩)
 clear hM hn
 go_enter Tryz.func73,Tryz.ntmps73
 go_wp2_with (first
  | (at_lookup;refine wpl_look rfl _ _ rfl Tryz.underlying9 Tryz.underlying67 (z:= .slice none 0 0) (by kernel_rfl) rfl (HM.out.keep (R0.out.bel.block bd hbd)) rfl hs ?_;rw [HN.out])
  | (go_at_call 72;refine(failed_any _ (by decide) _).mono ?_;rintro e w1 ⟨rfl,rfl⟩)
  | (refine wpList_store_row rfl _ _ _ rfl w.heap.size _ rfl rfl _ _ R0.out.r4 (by kernel_rfl) rfl (by simp [Value.oneCell']) ?_)
  | (refine wpList_store_row rfl _ _ _ rfl (w.heap.size+1) _ rfl rfl _ _ ((setRow_other _ _ _ _ (by omega)).trans R0.out.r5) (by kernel_rfl) rfl (by simp [Value.oneCell']) ?_))
 refine bodyPost_ret (results_cct rfl rfl rfl rfl ((setRow_other _ (w.heap.size+1) w.heap.size _ (by omega)).trans (R0.out.r4.row zeroClass)) (Bx.row (vs:=zeroTyp) ((setRow_other _ w.heap.size (w.heap.size+1) _ (by omega)).trans R0.out.r5) zeroTyp) rfl rfl (by kernel_rfl) rfl rfl (by kernel_rfl)) rfl ⟨?_,_,_,zeroC_len.1,zeroC_len.2.1,zeroC_len.2.2.1,zeroC_len.2.2.2,rfl⟩
 exact below_row (below_row R0.out.bel _ _ (Nat.le_refl _)) _ _ (by omega)
theorem yields_row {P:Program} {o:Oper} {a:Act} {w:World} {ty:TypeId} {x:Operand} (ho:o.op= .load ty x) {g:Nat} (hx:a.eval x= .pointer (some ⟨g,0,none⟩)) {t:TypeId} {cs:List Value} {d:TypeDesc}
  (hc:Bx w g cs t) (hu:P.underlying ty=some d) (hd:(match d with| .struct _| .array _ _=>true|_=>false)=true) (hi:(P.info? ty).map (·.size)=some cs.length):(execOp a.eval o).run P w= .ok (.value (.agg cs.toArray)) w:=by
 have hr:=run_loadVar_row (P:=P) w g t ty cs.toArray (0,0) d hc hu hd (by simpa using hi)
 unfold execOp
 simp only [ho,hx,Instr.loadAt,Instr.sureAddr,Sem.run_bind,Sem.run_pure,Result.andThen_ok,hr]
theorem list_ne {a b:ByteArray} (h:a≠b):(a.toList==b.toList)=false:=by
 rw [beq_eq_false_iff_ne]
 intro e
 rw [ByteArray.toList_eq,ByteArray.toList_eq] at e
 exact h (Go.WideShapes.bytes_inj e)
theorem lread_some (CE:ClassV→Int) (lb bd n sz:Nat) (fd:List UInt8→Option Value) (name:ByteArray) (A:Option Addr) (cap:Nat) (l:List UInt8) (w:World) (hc:w.cell? ⟨lb,0,none⟩=some (.map (some bd))) (hl:lb<w.heap.size) (hM:MapS w Tryz.prog 9 bd n fd sz) (hs:name.size≤maxLen)
  (hn:fd name.data.toList=some (.slice A l.length cap)) (hrd:RdB w A l.length cap l) (hA: ∀a,A=some a→a.block<w.heap.size) (hlen:l.length≤1048576)
  (hout: ∀c,readP l= .ok c→ ∀p i f m ok W,ClassAt W ok c p i f m→Calls Tryz.prog 96 #[bookV c p i f m] W (OutPost c (CE c) W)):
  Calls Tryz.prog 73 #[.pointer (some ⟨lb,0,none⟩), .string name] w (LReadPost (readQ CE l name) w):=by
 have HM:=Lib.hid hM
 have hbd:=hM.lt
 have HN:=Lib.hid hn
 have HRD:=Lib.hid hrd
 have HA:=Lib.hid hA
 have HO:=Lib.hid hout
 have R0:=Lib.hid (show RdW w ((w.alloc (.cells #[.int .i64 0, .int .i64 0, .slice none 0 0, .int .i64 0, .int .i64 0, .int .i64 0, .slice none 0 0, .slice none 0 0, .slice none 0 0] 104)).alloc (.cells #[.string ⟨#[]⟩, .string ⟨#[]⟩, .int .i64 0, .slice none 0 0, .slice none 0 0, .slice none 0 0] 75)) from⟨((Below.refl _ _).alloc (Nat.le_refl _) _).alloc (by simp) _,(bx_new w zeroClass _).below ((Below.refl _ _).alloc (Nat.le_refl _) _) (by simp),bx_new_at _ zeroTyp _ _ (by simp)⟩)
 have hz0:((w.alloc (.cells #[.int .i64 0, .int .i64 0, .slice none 0 0, .int .i64 0, .int .i64 0, .int .i64 0, .slice none 0 0, .slice none 0 0, .slice none 0 0] 104)).alloc (.cells #[.string ⟨#[]⟩, .string ⟨#[]⟩, .int .i64 0, .slice none 0 0, .slice none 0 0, .slice none 0 0] 75)).heap.size=w.heap.size+2:=by simp
 obtain⟨r,hr⟩: ∃r,readQ CE l name=r:=⟨_,rfl⟩
 rw [hr]
 have HR:=Lib.hid hr
 clear hM hn hrd hA hout hr
 go_enter Tryz.func73,Tryz.ntmps73
 go_wp2_with (first
  | (at_lookup;refine wpl_look rfl _ _ rfl Tryz.underlying9 Tryz.underlying67 (z:= .slice none 0 0) (by kernel_rfl) rfl (HM.out.keep (R0.out.bel.block bd hbd)) rfl hs ?_;rw [HN.out])
  | (go_at_call 95;refine stop_here ?_))
 refine go_on ?_
 refine(read_any field_any method_any A cap l _ (HRD.out.below R0.out.bel) (fun a e=>Nat.lt_of_lt_of_le (HA.out a e) R0.out.bel.size) hlen).mono ?_
 intro e w3 hq
 obtain⟨hb,hq⟩:=hq
 have R3:=Lib.hid (R0.out.below hb)
 have hz3:=R3.out.r5.lt
 clear hb R0 HM HN HRD HA hc hl
 rcases hrp:readP l with⟨a,er⟩ |c
 ·rw [hrp] at hq
  simp only at hq
  subst hq
  obtain⟨hb0,hb12⟩:=readP_bad hrp
  have HRQ:r= .error formB:=by rw [←HR.out];unfold readQ;rw [hrp]
  subst HRQ
  clear hrp HR HO hz0
  have he0:((er:Int)==0)=false:=by simp;omega
  have he1:((er:Int)==12)=false:=by simp;omega
  have he2:((er:Int) !=0)=true:=by simp;omega
  clear hb0 hb12
  unfold zeroClass
  have Z3:=Lib.hid (bx_new w3 [.int .i64 0, .int .i64 0, .slice none 0 0, .int .i64 0, .int .i64 0, .int .i64 0, .slice none 0 0, .slice none 0 0, .slice none 0 0] 104)
  go_wp2_with (refine wpList_store_row rfl _ _ _ rfl w3.heap.size _ rfl rfl _ _ Z3.out (by kernel_rfl) rfl (by simp [Value.oneCell']) ?_;refine stop_here ?_)
  refine go_on ?_
  have R4:=Lib.hid ((R3.out.below ((Below.refl _ _).alloc (Nat.le_refl _) (.cells #[.int .i64 0, .int .i64 0, .slice none 0 0, .int .i64 0, .int .i64 0, .int .i64 0, .slice none 0 0, .slice none 0 0, .slice none 0 0] 104))).row w3.heap.size #[.int .i64 0, .int .i64 0, .slice none 0 0, .int .i64 0, .int .i64 0, .int .i64 0, .slice none 0 0, .slice none 0 0, .slice none 0 0] (by omega))
  have K4:=Lib.hid (Z3.out.row [.int .i64 0, .int .i64 0, .slice none 0 0, .int .i64 0, .int .i64 0, .int .i64 0, .slice none 0 0, .slice none 0 0, .slice none 0 0])
  have L4:=Lib.hid (below_row ((Below.refl w3.heap.size w3).alloc (Nat.le_refl _) (.cells #[.int .i64 0, .int .i64 0, .slice none 0 0, .int .i64 0, .int .i64 0, .int .i64 0, .slice none 0 0, .slice none 0 0, .slice none 0 0] 104)) w3.heap.size #[.int .i64 0, .int .i64 0, .slice none 0 0, .int .i64 0, .int .i64 0, .int .i64 0, .slice none 0 0, .slice none 0 0, .slice none 0 0] (Nat.le_refl _))
  have hz4:((w3.alloc (.cells #[.int .i64 0, .int .i64 0, .slice none 0 0, .int .i64 0, .int .i64 0, .int .i64 0, .slice none 0 0, .slice none 0 0, .slice none 0 0] 104)).setRow w3.heap.size #[.int .i64 0, .int .i64 0, .slice none 0 0, .int .i64 0, .int .i64 0, .int .i64 0, .slice none 0 0, .slice none 0 0, .slice none 0 0]).heap.size=w3.heap.size+1:=by simp
  generalize ((w3.alloc (.cells #[.int .i64 0, .int .i64 0, .slice none 0 0, .int .i64 0, .int .i64 0, .int .i64 0, .slice none 0 0, .slice none 0 0, .slice none 0 0] 104)).setRow w3.heap.size #[.int .i64 0, .int .i64 0, .slice none 0 0, .int .i64 0, .int .i64 0, .int .i64 0, .slice none 0 0, .slice none 0 0, .slice none 0 0])=w4 at*
  obtain⟨G,hG⟩: ∃G,w3.heap.size=G:=⟨_,rfl⟩
  have L5:=Lib.hid (L4.out.alloc (by omega) (.cells #[.string ⟨#[]⟩, .string ⟨#[]⟩, .int .i64 0, .slice none 0 0, .slice none 0 0, .slice none 0 0] 75))
  rw [hG] at hz3 hz4 K4⊢
  have RG:=Lib.hid (show RdG w G (G+1) [.int .i64 0, .int .i64 0, .slice none 0 0, .int .i64 0, .int .i64 0, .int .i64 0, .slice none 0 0, .slice none 0 0, .slice none 0 0] [.string ⟨#[]⟩, .string ⟨#[]⟩, .int .i64 0, .slice none 0 0, .slice none 0 0, .slice none 0 0] (w4.alloc (.cells #[.string ⟨#[]⟩, .string ⟨#[]⟩, .int .i64 0, .slice none 0 0, .slice none 0 0, .slice none 0 0] 75)) from⟨R4.out.below ((Below.refl _ _).alloc (Nat.le_refl _) _),K4.out.below ((Below.refl _ _).alloc (Nat.le_refl _) _) K4.out.lt,bx_new_at _ _ _ _ hz4.symm⟩)
  clear Z3 R4 K4 L4
  go_wp2_with fail
  have D:=Lib.hid (RG.out.below ((Below.refl _ _).drew))
  refine wp_region_held_drew (S:=fun w'=>Bx w' G [.int .i64 0, .int .i64 0, .slice none 0 0, .int .i64 0, .int .i64 0, .int .i64 0, .slice none 0 0, .slice none 0 0, .slice none 0 0] 104∧Bx w' (G+1) [.string ⟨#[]⟩, .string ⟨#[]⟩, .int .i64 0, .slice none 0 0, .slice none 0 0, .slice none 0 0] 75) rfl ⟨D.out.gc,D.out.gt⟩ (fun hS=> ?_)
  refine wpAnyH_take (i:=0) (oi:={ dst:=some 49,op:=Op.load 104 (Operand.tmp 9),type:=104,pos:= "load.go:85",after:= #[],guard:=none }) (v:= .agg #[.int .i64 0, .int .i64 0, .slice none 0 0, .int .i64 0, .int .i64 0, .int .i64 0, .slice none 0 0, .slice none 0 0, .slice none 0 0]) rfl (by kernel_rfl) (by kernel_rfl) (by kernel_rfl) (fun _ _ _ h=>h) (Or.inl ⟨by rfl,fun w' hw'=>yields_row rfl rfl hw'.1 Tryz.underlying104 rfl (by kernel_rfl)⟩) hS ?_
  refine wpAnyH_take (i:=1) (oi:={ dst:=some 50,op:=Op.load 75 (Operand.tmp 12),type:=75,pos:= "load.go:85",after:= #[{ on:=3,ground:=Ground.gcOnly Departure.lateStores }],guard:=none }) (v:= .agg #[.string ⟨#[]⟩, .string ⟨#[]⟩, .int .i64 0, .slice none 0 0, .slice none 0 0, .slice none 0 0]) rfl (by kernel_rfl) (by kernel_rfl) (by kernel_rfl) (fun _ _ _ h=>h) (Or.inl ⟨by rfl,fun w' hw'=>yields_row rfl rfl hw'.2 Tryz.underlying75 rfl (by kernel_rfl)⟩) hS ?_
  simp only [Act.put,List.setIfInBounds_toArray,List.set_cons_zero,List.set_cons_succ]
  refine wpAnyH_ready (rs:= [2]) (by kernel_rfl) (by simp) ?_
  refine AllReadyH.cons (o:={ dst:=some 51,op:=Op.call { callee:=Callee.value (Operand.func 72),args:= #[Operand.const (Value.string { data:= #[67,108,97,115,115,70,111,114,109,97,116,69,114,114,111,114] })],argTypes:= #[9] },type:=87,pos:= "load.go:85",after:= #[],guard:=none }) rfl (fun K hK=> ?_) AllReadyH.nil
  go_wp2_with (go_at_call 72;refine(failed_any _ (by decide) _).mono ?_;rintro e w1 ⟨rfl,rfl⟩)
  refine hK.out _ _ hS (fun hS1=> ?_)
  clear hK K
  try simp only [Act.put,List.setIfInBounds_toArray,List.set_cons_zero,List.set_cons_succ]
  refine wpAnyH_ready (rs:= [3]) (by kernel_rfl) (by simp) ?_
  refine AllReadyH.cons (o:={ dst:=none,op:=Op.store 104 (Operand.tmp 4) (Operand.tmp 49),type:=0,pos:= "load.go:85",after:= #[{ on:=0,ground:=Ground.data },{ on:=2,ground:=Ground.chain },{ on:=0,ground:=Ground.phase },{ on:=1,ground:=Ground.textOnly Departure.lateStores },{ on:=2,ground:=Ground.textOnly Departure.lateStoresUnsure }],guard:=none }) rfl (fun K hK=> ?_) AllReadyH.nil
  refine if_pos_mp (by rfl) ?_
  refine wp_store_row _ _ _ rfl w.heap.size #[.int .i64 0, .int .i64 0, .slice none 0 0, .int .i64 0, .int .i64 0, .int .i64 0, .slice none 0 0, .slice none 0 0, .slice none 0 0] rfl rfl _ _ D.out.rd.r4 (by kernel_rfl) rfl (by simp [Value.oneCell']) ?_
  refine hK.out _ _ ⟨(setRow_other _ w.heap.size G _ (by omega)).trans D.out.gc,(setRow_other _ w.heap.size (G+1) _ (by omega)).trans D.out.gt⟩ (fun hS2=> ?_)
  clear hK K
  simp only [Act.put,List.setIfInBounds_toArray,List.set_cons_zero,List.set_cons_succ]
  refine wpAnyH_ready (rs:= [4]) (by kernel_rfl) (by simp) ?_
  refine AllReadyH.cons (o:={ dst:=none,op:=Op.store 75 (Operand.tmp 5) (Operand.tmp 50),type:=0,pos:= "load.go:85",after:= #[{ on:=1,ground:=Ground.data },{ on:=3,ground:=Ground.chain },{ on:=0,ground:=Ground.phase },{ on:=1,ground:=Ground.phase },{ on:=2,ground:=Ground.textOnly Departure.lateStoresUnsure },{ on:=3,ground:=Ground.phase }],guard:=none }) rfl (fun K hK=> ?_) AllReadyH.nil
  refine if_pos_mp (by rfl) ?_
  refine wp_store_row _ _ _ rfl (w.heap.size+1) #[.string ⟨#[]⟩, .string ⟨#[]⟩, .int .i64 0, .slice none 0 0, .slice none 0 0, .slice none 0 0] rfl rfl _ _ ((setRow_other _ w.heap.size (w.heap.size+1) _ (by omega)).trans D.out.rd.r5) (by kernel_rfl) rfl (by simp [Value.oneCell']) ?_
  refine hK.out _ _ ⟨(setRow_other _ (w.heap.size+1) G _ (by omega)).trans hS2.1,(setRow_other _ (w.heap.size+1) (G+1) _ (by omega)).trans hS2.2⟩ (fun hS3=> ?_)
  clear hK K
  simp only [Act.put,List.setIfInBounds_toArray,List.set_cons_zero,List.set_cons_succ]
  refine wpAnyH_ready (rs:= [5]) (by kernel_rfl) (by simp) ?_
  refine AllReadyH.cons (o:={ dst:=some 6,op:=Op.assign (Operand.tmp 51),type:=87,pos:= "load.go:85",after:= #[{ on:=2,ground:=Ground.data },{ on:=4,ground:=Ground.chain },{ on:=0,ground:=Ground.phase },{ on:=1,ground:=Ground.phase },{ on:=2,ground:=Ground.phase },{ on:=3,ground:=Ground.phase },{ on:=4,ground:=Ground.phase }],guard:=none }) rfl (fun K hK=> ?_) AllReadyH.nil
  go_simp
  refine hK.out _ _ hS3 (fun _=> ?_)
  clear hK K
  refine wpAnyH_done (by kernel_rfl) ?_ _
  go_wp2_with fail
  refine bodyPost_ret (results_cct rfl rfl rfl rfl ((setRow_other _ (w.heap.size+1) w.heap.size _ (by omega)).trans (D.out.rd.r4.row [.int .i64 0, .int .i64 0, .slice none 0 0, .int .i64 0, .int .i64 0, .int .i64 0, .slice none 0 0, .slice none 0 0, .slice none 0 0])) (Bx.row (vs:=zeroTyp) ((setRow_other _ w.heap.size (w.heap.size+1) _ (by omega)).trans D.out.rd.r5) [.string ⟨#[]⟩, .string ⟨#[]⟩, .int .i64 0, .slice none 0 0, .slice none 0 0, .slice none 0 0]) rfl rfl (by kernel_rfl) rfl rfl (by kernel_rfl)) rfl ?_
  exact⟨below_row (below_row D.out.rd.bel _ _ (Nat.le_refl _)) _ _ (by omega), [.int .i64 0, .int .i64 0, .slice none 0 0, .int .i64 0, .int .i64 0, .int .i64 0, .slice none 0 0, .slice none 0 0, .slice none 0 0], [.string ⟨#[]⟩, .string ⟨#[]⟩, .int .i64 0, .slice none 0 0, .slice none 0 0, .slice none 0 0],rfl,rfl,by simp [Value.oneCell'],by simp [Value.oneCell'],rfl⟩
 ·rw [hrp] at hq
  obtain⟨pv,iv,fv,mv,rfl,hca⟩:=hq
  have HOC:=Lib.hid (HO.out c hrp)
  have HRQ:=Lib.hid (show r=if CE c=12 then .error versB else if CE c≠0 then .error formB else if(outT c).name=name then .ok (c,outT c) else .error noDefB by rw [←HR.out];unfold readQ;rw [hrp])
  rw [hz0] at hca
  obtain⟨Ap,kp,rfl,_⟩:=sl_len hca.hpool
  obtain⟨Ai,ki,rfl,_⟩:=sl_len hca.hifs
  obtain⟨Af,kf,rfl,_⟩:=sl_len hca.hflds
  obtain⟨ms,_,hms2,_⟩:=id hca.hmths
  obtain⟨Am,km,rfl,_⟩:=sl_len hms2
  have HCA:=Lib.hid hca
  unfold ClassV.cells
  clear hrp HR HO hca hms2 hz0
  have Z3:=Lib.hid (bx_new w3 [.int .i64 0, .int .i64 0, .slice none 0 0, .int .i64 0, .int .i64 0, .int .i64 0, .slice none 0 0, .slice none 0 0, .slice none 0 0] 104)
  go_wp2_with (refine wpList_store_row rfl _ _ _ rfl w3.heap.size _ rfl rfl _ _ Z3.out (by kernel_rfl) rfl (by simp [Value.oneCell']) ?_;refine stop_here ?_)
  refine go_on ?_
  have R4:=Lib.hid ((R3.out.below ((Below.refl _ _).alloc (Nat.le_refl _) (.cells #[.int .i64 0, .int .i64 0, .slice none 0 0, .int .i64 0, .int .i64 0, .int .i64 0, .slice none 0 0, .slice none 0 0, .slice none 0 0] 104))).row w3.heap.size #[.int .i64 c.minor, .int .i64 c.major, .slice Ap c.pool.length kp, .int .i64 c.acc, .int .i64 c.this, .int .i64 c.sup, .slice Ai c.ifs.length ki, .slice Af c.flds.length kf, .slice Am c.mths.length km] (by omega))
  have K4:=Lib.hid (Z3.out.row [.int .i64 c.minor, .int .i64 c.major, .slice Ap c.pool.length kp, .int .i64 c.acc, .int .i64 c.this, .int .i64 c.sup, .slice Ai c.ifs.length ki, .slice Af c.flds.length kf, .slice Am c.mths.length km])
  have L4:=Lib.hid (below_row ((Below.refl w3.heap.size w3).alloc (Nat.le_refl _) (.cells #[.int .i64 0, .int .i64 0, .slice none 0 0, .int .i64 0, .int .i64 0, .int .i64 0, .slice none 0 0, .slice none 0 0, .slice none 0 0] 104)) w3.heap.size #[.int .i64 c.minor, .int .i64 c.major, .slice Ap c.pool.length kp, .int .i64 c.acc, .int .i64 c.this, .int .i64 c.sup, .slice Ai c.ifs.length ki, .slice Af c.flds.length kf, .slice Am c.mths.length km] (Nat.le_refl _))
  have hz4:((w3.alloc (.cells #[.int .i64 0, .int .i64 0, .slice none 0 0, .int .i64 0, .int .i64 0, .int .i64 0, .slice none 0 0, .slice none 0 0, .slice none 0 0] 104)).setRow w3.heap.size #[.int .i64 c.minor, .int .i64 c.major, .slice Ap c.pool.length kp, .int .i64 c.acc, .int .i64 c.this, .int .i64 c.sup, .slice Ai c.ifs.length ki, .slice Af c.flds.length kf, .slice Am c.mths.length km]).heap.size=w3.heap.size+1:=by simp
  generalize ((w3.alloc (.cells #[.int .i64 0, .int .i64 0, .slice none 0 0, .int .i64 0, .int .i64 0, .int .i64 0, .slice none 0 0, .slice none 0 0, .slice none 0 0] 104)).setRow w3.heap.size #[.int .i64 c.minor, .int .i64 c.major, .slice Ap c.pool.length kp, .int .i64 c.acc, .int .i64 c.this, .int .i64 c.sup, .slice Ai c.ifs.length ki, .slice Af c.flds.length kf, .slice Am c.mths.length km])=w4 at*
  obtain⟨G,hG⟩: ∃G,w3.heap.size=G:=⟨_,rfl⟩
  have L5:=Lib.hid (L4.out.alloc (by omega) (.cells #[.string ⟨#[]⟩, .string ⟨#[]⟩, .int .i64 0, .slice none 0 0, .slice none 0 0, .slice none 0 0] 75))
  rw [hG] at hz3 hz4 K4⊢
  have RG:=Lib.hid (show RdG w G (G+1) [.int .i64 c.minor, .int .i64 c.major, .slice Ap c.pool.length kp, .int .i64 c.acc, .int .i64 c.this, .int .i64 c.sup, .slice Ai c.ifs.length ki, .slice Af c.flds.length kf, .slice Am c.mths.length km] [.string ⟨#[]⟩, .string ⟨#[]⟩, .int .i64 0, .slice none 0 0, .slice none 0 0, .slice none 0 0] (w4.alloc (.cells #[.string ⟨#[]⟩, .string ⟨#[]⟩, .int .i64 0, .slice none 0 0, .slice none 0 0, .slice none 0 0] 75)) from⟨R4.out.below ((Below.refl _ _).alloc (Nat.le_refl _) _),K4.out.below ((Below.refl _ _).alloc (Nat.le_refl _) _) K4.out.lt,bx_new_at _ _ _ _ hz4.symm⟩)
  clear Z3 R4 K4 L4
  have HC5:=Lib.hid (HCA.out.keep (Kept.of_below L5.out))
  go_wp2_with (first
   | (refine wpList_load_row rfl _ _ rfl G rfl _ _ _ _ RG.out.gc Tryz.underlying104 rfl (by kernel_rfl) ?_)
   | (go_at_call 96;refine stop_here ?_))
  refine go_on ?_
  refine(HOC.out _ _ _ _ _ _ HC5.out).mono ?_
  intro e w6 hq
  obtain⟨hb,hq⟩:=hq
  have RG6:=Lib.hid (RG.out.below hb)
  have L6:=Lib.hid (L5.out.trans (hb.mono L5.out.size))
  have HC6:=Lib.hid (HC5.out.keep (Kept.of_below hb))
  clear hb RG L5 HC5 HOC
  obtain⟨E,hE⟩: ∃E,CE c=E:=⟨_,rfl⟩
  rw [hE] at HRQ hq
  clear hE
  rcases hq with⟨hE0,rfl⟩ | ⟨rfl,iv,fv,mv,rfl,hta⟩
  ·by_cases h12:E=12
   ·subst h12
    have HRR:r= .error versB:=by rw [HRQ.out,if_pos rfl]
    subst HRR
    clear HRQ hE0
    unfold zeroTyp
    go_wp2_with (refine wpList_store_row rfl _ _ _ rfl (G+1) _ rfl rfl _ _ RG6.out.gt (by kernel_rfl) rfl (by simp [Value.oneCell']) ?_;refine stop_here ?_)
    refine go_on ?_
    have RG7:=Lib.hid (show RdG w G (G+1) [.int .i64 c.minor, .int .i64 c.major, .slice Ap c.pool.length kp, .int .i64 c.acc, .int .i64 c.this, .int .i64 c.sup, .slice Ai c.ifs.length ki, .slice Af c.flds.length kf, .slice Am c.mths.length km] [.string ⟨#[]⟩, .string ⟨#[]⟩, .int .i64 0, .slice none 0 0, .slice none 0 0, .slice none 0 0] (w6.setRow (G+1) #[.string ⟨#[]⟩, .string ⟨#[]⟩, .int .i64 0, .slice none 0 0, .slice none 0 0, .slice none 0 0]) from⟨RG6.out.rd.row _ _ (by omega),(setRow_other w6 (G+1) G _ (by omega)).trans RG6.out.gc,RG6.out.gt.row [.string ⟨#[]⟩, .string ⟨#[]⟩, .int .i64 0, .slice none 0 0, .slice none 0 0, .slice none 0 0]⟩)
    go_wp2_with fail
    have D:=Lib.hid (RG7.out.below ((Below.refl _ _).drew))
    refine wp_region_held_drew (S:=fun w'=>Bx w' G [.int .i64 c.minor, .int .i64 c.major, .slice Ap c.pool.length kp, .int .i64 c.acc, .int .i64 c.this, .int .i64 c.sup, .slice Ai c.ifs.length ki, .slice Af c.flds.length kf, .slice Am c.mths.length km] 104∧Bx w' (G+1) [.string ⟨#[]⟩, .string ⟨#[]⟩, .int .i64 0, .slice none 0 0, .slice none 0 0, .slice none 0 0] 75) rfl ⟨D.out.gc,D.out.gt⟩ (fun hS=> ?_)
    refine wpAnyH_take (i:=0) (oi:={ dst:=some 43,op:=Op.load 104 (Operand.tmp 9),type:=104,pos:= "load.go:83",after:= #[],guard:=none }) (v:= .agg #[.int .i64 c.minor, .int .i64 c.major, .slice Ap c.pool.length kp, .int .i64 c.acc, .int .i64 c.this, .int .i64 c.sup, .slice Ai c.ifs.length ki, .slice Af c.flds.length kf, .slice Am c.mths.length km]) rfl (by kernel_rfl) (by kernel_rfl) (by kernel_rfl) (fun _ _ _ h=>h) (Or.inl ⟨by rfl,fun w' hw'=>yields_row rfl rfl hw'.1 Tryz.underlying104 rfl (by kernel_rfl)⟩) hS ?_
    refine wpAnyH_take (i:=1) (oi:={ dst:=some 44,op:=Op.load 75 (Operand.tmp 12),type:=75,pos:= "load.go:83",after:= #[{ on:=3,ground:=Ground.gcOnly Departure.lateStores }],guard:=none }) (v:= .agg #[.string ⟨#[]⟩, .string ⟨#[]⟩, .int .i64 0, .slice none 0 0, .slice none 0 0, .slice none 0 0]) rfl (by kernel_rfl) (by kernel_rfl) (by kernel_rfl) (fun _ _ _ h=>h) (Or.inl ⟨by rfl,fun w' hw'=>yields_row rfl rfl hw'.2 Tryz.underlying75 rfl (by kernel_rfl)⟩) hS ?_
    simp only [Act.put,List.setIfInBounds_toArray,List.set_cons_zero,List.set_cons_succ]
    refine wpAnyH_ready (rs:= [2]) (by kernel_rfl) (by simp) ?_
    refine AllReadyH.cons (o:={ dst:=some 45,op:=Op.call { callee:=Callee.value (Operand.func 72),args:= #[Operand.const (Value.string { data:= #[85,110,115,117,112,112,111,114,116,101,100,67,108,97,115,115,86,101,114,115,105,111,110,69,114,114,111,114] })],argTypes:= #[9] },type:=87,pos:= "load.go:83",after:= #[],guard:=none }) rfl (fun K hK=> ?_) AllReadyH.nil
    go_wp2_with (go_at_call 72;refine(failed_any _ (by decide) _).mono ?_;rintro e w1 ⟨rfl,rfl⟩)
    refine hK.out _ _ hS (fun hS1=> ?_)
    clear hK K
    try simp only [Act.put,List.setIfInBounds_toArray,List.set_cons_zero,List.set_cons_succ]
    refine wpAnyH_ready (rs:= [3]) (by kernel_rfl) (by simp) ?_
    refine AllReadyH.cons (o:={ dst:=none,op:=Op.store 104 (Operand.tmp 4) (Operand.tmp 43),type:=0,pos:= "load.go:83",after:= #[{ on:=0,ground:=Ground.data },{ on:=2,ground:=Ground.chain },{ on:=0,ground:=Ground.phase },{ on:=1,ground:=Ground.textOnly Departure.lateStores },{ on:=2,ground:=Ground.textOnly Departure.lateStoresUnsure }],guard:=none }) rfl (fun K hK=> ?_) AllReadyH.nil
    refine if_pos_mp (by rfl) ?_
    refine wp_store_row _ _ _ rfl w.heap.size #[.int .i64 c.minor, .int .i64 c.major, .slice Ap c.pool.length kp, .int .i64 c.acc, .int .i64 c.this, .int .i64 c.sup, .slice Ai c.ifs.length ki, .slice Af c.flds.length kf, .slice Am c.mths.length km] rfl rfl _ _ D.out.rd.r4 (by kernel_rfl) rfl (by simp [Value.oneCell']) ?_
    refine hK.out _ _ ⟨(setRow_other _ w.heap.size G _ (by omega)).trans D.out.gc,(setRow_other _ w.heap.size (G+1) _ (by omega)).trans D.out.gt⟩ (fun hS2=> ?_)
    clear hK K
    simp only [Act.put,List.setIfInBounds_toArray,List.set_cons_zero,List.set_cons_succ]
    refine wpAnyH_ready (rs:= [4]) (by kernel_rfl) (by simp) ?_
    refine AllReadyH.cons (o:={ dst:=none,op:=Op.store 75 (Operand.tmp 5) (Operand.tmp 44),type:=0,pos:= "load.go:83",after:= #[{ on:=1,ground:=Ground.data },{ on:=3,ground:=Ground.chain },{ on:=0,ground:=Ground.phase },{ on:=1,ground:=Ground.phase },{ on:=2,ground:=Ground.textOnly Departure.lateStoresUnsure },{ on:=3,ground:=Ground.phase }],guard:=none }) rfl (fun K hK=> ?_) AllReadyH.nil
    refine if_pos_mp (by rfl) ?_
    refine wp_store_row _ _ _ rfl (w.heap.size+1) #[.string ⟨#[]⟩, .string ⟨#[]⟩, .int .i64 0, .slice none 0 0, .slice none 0 0, .slice none 0 0] rfl rfl _ _ ((setRow_other _ w.heap.size (w.heap.size+1) _ (by omega)).trans D.out.rd.r5) (by kernel_rfl) rfl (by simp [Value.oneCell']) ?_
    refine hK.out _ _ ⟨(setRow_other _ (w.heap.size+1) G _ (by omega)).trans hS2.1,(setRow_other _ (w.heap.size+1) (G+1) _ (by omega)).trans hS2.2⟩ (fun hS3=> ?_)
    clear hK K
    simp only [Act.put,List.setIfInBounds_toArray,List.set_cons_zero,List.set_cons_succ]
    refine wpAnyH_ready (rs:= [5]) (by kernel_rfl) (by simp) ?_
    refine AllReadyH.cons (o:={ dst:=some 6,op:=Op.assign (Operand.tmp 45),type:=87,pos:= "load.go:83",after:= #[{ on:=2,ground:=Ground.data },{ on:=4,ground:=Ground.chain },{ on:=0,ground:=Ground.phase },{ on:=1,ground:=Ground.phase },{ on:=2,ground:=Ground.phase },{ on:=3,ground:=Ground.phase },{ on:=4,ground:=Ground.phase }],guard:=none }) rfl (fun K hK=> ?_) AllReadyH.nil
    go_simp
    refine hK.out _ _ hS3 (fun _=> ?_)
    clear hK K
    refine wpAnyH_done (by kernel_rfl) ?_ _
    go_wp2_with fail
    refine bodyPost_ret (results_cct rfl rfl rfl rfl ((setRow_other _ (w.heap.size+1) w.heap.size _ (by omega)).trans (D.out.rd.r4.row [.int .i64 c.minor, .int .i64 c.major, .slice Ap c.pool.length kp, .int .i64 c.acc, .int .i64 c.this, .int .i64 c.sup, .slice Ai c.ifs.length ki, .slice Af c.flds.length kf, .slice Am c.mths.length km])) (Bx.row (vs:=zeroTyp) ((setRow_other _ w.heap.size (w.heap.size+1) _ (by omega)).trans D.out.rd.r5) [.string ⟨#[]⟩, .string ⟨#[]⟩, .int .i64 0, .slice none 0 0, .slice none 0 0, .slice none 0 0]) rfl rfl (by kernel_rfl) rfl rfl (by kernel_rfl)) rfl ?_
    exact⟨below_row (below_row D.out.rd.bel _ _ (Nat.le_refl _)) _ _ (by omega), [.int .i64 c.minor, .int .i64 c.major, .slice Ap c.pool.length kp, .int .i64 c.acc, .int .i64 c.this, .int .i64 c.sup, .slice Ai c.ifs.length ki, .slice Af c.flds.length kf, .slice Am c.mths.length km], [.string ⟨#[]⟩, .string ⟨#[]⟩, .int .i64 0, .slice none 0 0, .slice none 0 0, .slice none 0 0],rfl,rfl,by simp [Value.oneCell'],by simp [Value.oneCell'],rfl⟩
   ·have HRR:r= .error formB:=by rw [HRQ.out,if_neg h12,if_pos hE0]
    subst HRR
    have he1:(E==12)=false:=by simpa using h12
    have he2:(E !=0)=true:=by simpa using hE0
    clear HRQ hE0 h12
    unfold zeroTyp
    go_wp2_with (refine wpList_store_row rfl _ _ _ rfl (G+1) _ rfl rfl _ _ RG6.out.gt (by kernel_rfl) rfl (by simp [Value.oneCell']) ?_;refine stop_here ?_)
    refine go_on ?_
    have RG7:=Lib.hid (show RdG w G (G+1) [.int .i64 c.minor, .int .i64 c.major, .slice Ap c.pool.length kp, .int .i64 c.acc, .int .i64 c.this, .int .i64 c.sup, .slice Ai c.ifs.length ki, .slice Af c.flds.length kf, .slice Am c.mths.length km] [.string ⟨#[]⟩, .string ⟨#[]⟩, .int .i64 0, .slice none 0 0, .slice none 0 0, .slice none 0 0] (w6.setRow (G+1) #[.string ⟨#[]⟩, .string ⟨#[]⟩, .int .i64 0, .slice none 0 0, .slice none 0 0, .slice none 0 0]) from⟨RG6.out.rd.row _ _ (by omega),(setRow_other w6 (G+1) G _ (by omega)).trans RG6.out.gc,RG6.out.gt.row [.string ⟨#[]⟩, .string ⟨#[]⟩, .int .i64 0, .slice none 0 0, .slice none 0 0, .slice none 0 0]⟩)
    go_wp2_with fail
    have D:=Lib.hid (RG7.out.below ((Below.refl _ _).drew))
    refine wp_region_held_drew (S:=fun w'=>Bx w' G [.int .i64 c.minor, .int .i64 c.major, .slice Ap c.pool.length kp, .int .i64 c.acc, .int .i64 c.this, .int .i64 c.sup, .slice Ai c.ifs.length ki, .slice Af c.flds.length kf, .slice Am c.mths.length km] 104∧Bx w' (G+1) [.string ⟨#[]⟩, .string ⟨#[]⟩, .int .i64 0, .slice none 0 0, .slice none 0 0, .slice none 0 0] 75) rfl ⟨D.out.gc,D.out.gt⟩ (fun hS=> ?_)
    refine wpAnyH_take (i:=0) (oi:={ dst:=some 49,op:=Op.load 104 (Operand.tmp 9),type:=104,pos:= "load.go:85",after:= #[],guard:=none }) (v:= .agg #[.int .i64 c.minor, .int .i64 c.major, .slice Ap c.pool.length kp, .int .i64 c.acc, .int .i64 c.this, .int .i64 c.sup, .slice Ai c.ifs.length ki, .slice Af c.flds.length kf, .slice Am c.mths.length km]) rfl (by kernel_rfl) (by kernel_rfl) (by kernel_rfl) (fun _ _ _ h=>h) (Or.inl ⟨by rfl,fun w' hw'=>yields_row rfl rfl hw'.1 Tryz.underlying104 rfl (by kernel_rfl)⟩) hS ?_
    refine wpAnyH_take (i:=1) (oi:={ dst:=some 50,op:=Op.load 75 (Operand.tmp 12),type:=75,pos:= "load.go:85",after:= #[{ on:=3,ground:=Ground.gcOnly Departure.lateStores }],guard:=none }) (v:= .agg #[.string ⟨#[]⟩, .string ⟨#[]⟩, .int .i64 0, .slice none 0 0, .slice none 0 0, .slice none 0 0]) rfl (by kernel_rfl) (by kernel_rfl) (by kernel_rfl) (fun _ _ _ h=>h) (Or.inl ⟨by rfl,fun w' hw'=>yields_row rfl rfl hw'.2 Tryz.underlying75 rfl (by kernel_rfl)⟩) hS ?_
    simp only [Act.put,List.setIfInBounds_toArray,List.set_cons_zero,List.set_cons_succ]
    refine wpAnyH_ready (rs:= [2]) (by kernel_rfl) (by simp) ?_
    refine AllReadyH.cons (o:={ dst:=some 51,op:=Op.call { callee:=Callee.value (Operand.func 72),args:= #[Operand.const (Value.string { data:= #[67,108,97,115,115,70,111,114,109,97,116,69,114,114,111,114] })],argTypes:= #[9] },type:=87,pos:= "load.go:85",after:= #[],guard:=none }) rfl (fun K hK=> ?_) AllReadyH.nil
    go_wp2_with (go_at_call 72;refine(failed_any _ (by decide) _).mono ?_;rintro e w1 ⟨rfl,rfl⟩)
    refine hK.out _ _ hS (fun hS1=> ?_)
    clear hK K
    try simp only [Act.put,List.setIfInBounds_toArray,List.set_cons_zero,List.set_cons_succ]
    refine wpAnyH_ready (rs:= [3]) (by kernel_rfl) (by simp) ?_
    refine AllReadyH.cons (o:={ dst:=none,op:=Op.store 104 (Operand.tmp 4) (Operand.tmp 49),type:=0,pos:= "load.go:85",after:= #[{ on:=0,ground:=Ground.data },{ on:=2,ground:=Ground.chain },{ on:=0,ground:=Ground.phase },{ on:=1,ground:=Ground.textOnly Departure.lateStores },{ on:=2,ground:=Ground.textOnly Departure.lateStoresUnsure }],guard:=none }) rfl (fun K hK=> ?_) AllReadyH.nil
    refine if_pos_mp (by rfl) ?_
    refine wp_store_row _ _ _ rfl w.heap.size #[.int .i64 c.minor, .int .i64 c.major, .slice Ap c.pool.length kp, .int .i64 c.acc, .int .i64 c.this, .int .i64 c.sup, .slice Ai c.ifs.length ki, .slice Af c.flds.length kf, .slice Am c.mths.length km] rfl rfl _ _ D.out.rd.r4 (by kernel_rfl) rfl (by simp [Value.oneCell']) ?_
    refine hK.out _ _ ⟨(setRow_other _ w.heap.size G _ (by omega)).trans D.out.gc,(setRow_other _ w.heap.size (G+1) _ (by omega)).trans D.out.gt⟩ (fun hS2=> ?_)
    clear hK K
    simp only [Act.put,List.setIfInBounds_toArray,List.set_cons_zero,List.set_cons_succ]
    refine wpAnyH_ready (rs:= [4]) (by kernel_rfl) (by simp) ?_
    refine AllReadyH.cons (o:={ dst:=none,op:=Op.store 75 (Operand.tmp 5) (Operand.tmp 50),type:=0,pos:= "load.go:85",after:= #[{ on:=1,ground:=Ground.data },{ on:=3,ground:=Ground.chain },{ on:=0,ground:=Ground.phase },{ on:=1,ground:=Ground.phase },{ on:=2,ground:=Ground.textOnly Departure.lateStoresUnsure },{ on:=3,ground:=Ground.phase }],guard:=none }) rfl (fun K hK=> ?_) AllReadyH.nil
    refine if_pos_mp (by rfl) ?_
    refine wp_store_row _ _ _ rfl (w.heap.size+1) #[.string ⟨#[]⟩, .string ⟨#[]⟩, .int .i64 0, .slice none 0 0, .slice none 0 0, .slice none 0 0] rfl rfl _ _ ((setRow_other _ w.heap.size (w.heap.size+1) _ (by omega)).trans D.out.rd.r5) (by kernel_rfl) rfl (by simp [Value.oneCell']) ?_
    refine hK.out _ _ ⟨(setRow_other _ (w.heap.size+1) G _ (by omega)).trans hS2.1,(setRow_other _ (w.heap.size+1) (G+1) _ (by omega)).trans hS2.2⟩ (fun hS3=> ?_)
    clear hK K
    simp only [Act.put,List.setIfInBounds_toArray,List.set_cons_zero,List.set_cons_succ]
    refine wpAnyH_ready (rs:= [5]) (by kernel_rfl) (by simp) ?_
    refine AllReadyH.cons (o:={ dst:=some 6,op:=Op.assign (Operand.tmp 51),type:=87,pos:= "load.go:85",after:= #[{ on:=2,ground:=Ground.data },{ on:=4,ground:=Ground.chain },{ on:=0,ground:=Ground.phase },{ on:=1,ground:=Ground.phase },{ on:=2,ground:=Ground.phase },{ on:=3,ground:=Ground.phase },{ on:=4,ground:=Ground.phase }],guard:=none }) rfl (fun K hK=> ?_) AllReadyH.nil
    go_simp
    refine hK.out _ _ hS3 (fun _=> ?_)
    clear hK K
    refine wpAnyH_done (by kernel_rfl) ?_ _
    go_wp2_with fail
    refine bodyPost_ret (results_cct rfl rfl rfl rfl ((setRow_other _ (w.heap.size+1) w.heap.size _ (by omega)).trans (D.out.rd.r4.row [.int .i64 c.minor, .int .i64 c.major, .slice Ap c.pool.length kp, .int .i64 c.acc, .int .i64 c.this, .int .i64 c.sup, .slice Ai c.ifs.length ki, .slice Af c.flds.length kf, .slice Am c.mths.length km])) (Bx.row (vs:=zeroTyp) ((setRow_other _ w.heap.size (w.heap.size+1) _ (by omega)).trans D.out.rd.r5) [.string ⟨#[]⟩, .string ⟨#[]⟩, .int .i64 0, .slice none 0 0, .slice none 0 0, .slice none 0 0]) rfl rfl (by kernel_rfl) rfl rfl (by kernel_rfl)) rfl ?_
    exact⟨below_row (below_row D.out.rd.bel _ _ (Nat.le_refl _)) _ _ (by omega), [.int .i64 c.minor, .int .i64 c.major, .slice Ap c.pool.length kp, .int .i64 c.acc, .int .i64 c.this, .int .i64 c.sup, .slice Ai c.ifs.length ki, .slice Af c.flds.length kf, .slice Am c.mths.length km], [.string ⟨#[]⟩, .string ⟨#[]⟩, .int .i64 0, .slice none 0 0, .slice none 0 0, .slice none 0 0],rfl,rfl,by simp [Value.oneCell'],by simp [Value.oneCell'],rfl⟩
  ·obtain⟨Bi,ji,rfl,_⟩:=sl_len hta.hi
   obtain⟨Bf,jf,rfl,_⟩:=sl_len hta.hf
   obtain⟨Bm,jm,rfl,_⟩:=sl_len hta.hm
   have HTA:=Lib.hid hta
   unfold TypV.vals
   clear hta
   go_wp2_with (refine wpList_store_row rfl _ _ _ rfl (G+1) _ rfl rfl _ _ RG6.out.gt (by kernel_rfl) rfl (by simp [Value.oneCell']) ?_;refine stop_here ?_)
   refine go_on ?_
   have RG7:=Lib.hid (show RdG w G (G+1) [.int .i64 c.minor, .int .i64 c.major, .slice Ap c.pool.length kp, .int .i64 c.acc, .int .i64 c.this, .int .i64 c.sup, .slice Ai c.ifs.length ki, .slice Af c.flds.length kf, .slice Am c.mths.length km] [.string (outT c).name, .string (outT c).sup, .int .i64 (outT c).acc, .slice Bi (outT c).ifs.length ji, .slice Bf (outT c).flds.length jf, .slice Bm (outT c).mths.length jm] (w6.setRow (G+1) #[.string (outT c).name, .string (outT c).sup, .int .i64 (outT c).acc, .slice Bi (outT c).ifs.length ji, .slice Bf (outT c).flds.length jf, .slice Bm (outT c).mths.length jm]) from⟨RG6.out.rd.row _ _ (by omega),(setRow_other w6 (G+1) G _ (by omega)).trans RG6.out.gc,RG6.out.gt.row [.string (outT c).name, .string (outT c).sup, .int .i64 (outT c).acc, .slice Bi (outT c).ifs.length ji, .slice Bf (outT c).flds.length jf, .slice Bm (outT c).mths.length jm]⟩)
   have L7:=Lib.hid (below_row L6.out (G+1) #[.string (outT c).name, .string (outT c).sup, .int .i64 (outT c).acc, .slice Bi (outT c).ifs.length ji, .slice Bf (outT c).flds.length jf, .slice Bm (outT c).mths.length jm] (by omega))
   have HC7:=Lib.hid (HCA.out.keep (Kept.of_below L7.out))
   have HT7:=Lib.hid (HTA.out.keep (Kept.of_but (but_row w6 (G+1) #[.string (outT c).name, .string (outT c).sup, .int .i64 (outT c).acc, .slice Bi (outT c).ifs.length ji, .slice Bf (outT c).flds.length jf, .slice Bm (outT c).mths.length jm]) (fun g hg hm=>by simp at hg hm;omega)))
   generalize w6.setRow (G+1) #[.string (outT c).name, .string (outT c).sup, .int .i64 (outT c).acc, .slice Bi (outT c).ifs.length ji, .slice Bf (outT c).flds.length jf, .slice Bm (outT c).mths.length jm]=w7 at*
   have t0:=RG7.out.gt.cell 0 rfl
   by_cases hnm:(outT c).name=name
   ·have HRR:r= .ok (c,outT c):=by rw [HRQ.out,if_neg (by omega),if_neg (by omega),if_pos hnm]
    subst HRR
    have hnb:((outT c).name.toList==name.toList)=true:=by rw [hnm];simp
    have hnm':=Lib.hid hnm
    clear HRQ hnm
    go_wp2_with fail
    have D:=Lib.hid (RG7.out.below ((Below.refl _ _).drew))
    refine wp_region_held_drew (S:=fun w'=>Bx w' G [.int .i64 c.minor, .int .i64 c.major, .slice Ap c.pool.length kp, .int .i64 c.acc, .int .i64 c.this, .int .i64 c.sup, .slice Ai c.ifs.length ki, .slice Af c.flds.length kf, .slice Am c.mths.length km] 104∧Bx w' (G+1) [.string (outT c).name, .string (outT c).sup, .int .i64 (outT c).acc, .slice Bi (outT c).ifs.length ji, .slice Bf (outT c).flds.length jf, .slice Bm (outT c).mths.length jm] 75) rfl ⟨D.out.gc,D.out.gt⟩ (fun hS=> ?_)
    refine wpAnyH_take (i:=0) (oi:={ dst:=some 60,op:=Op.load 104 (Operand.tmp 9),type:=104,pos:= "load.go:89",after:= #[],guard:=none }) (v:= .agg #[.int .i64 c.minor, .int .i64 c.major, .slice Ap c.pool.length kp, .int .i64 c.acc, .int .i64 c.this, .int .i64 c.sup, .slice Ai c.ifs.length ki, .slice Af c.flds.length kf, .slice Am c.mths.length km]) rfl (by kernel_rfl) (by kernel_rfl) (by kernel_rfl) (fun _ _ _ h=>h) (Or.inl ⟨by rfl,fun w' hw'=>yields_row rfl rfl hw'.1 Tryz.underlying104 rfl (by kernel_rfl)⟩) hS ?_
    refine wpAnyH_take (i:=1) (oi:={ dst:=some 61,op:=Op.load 75 (Operand.tmp 12),type:=75,pos:= "load.go:89",after:= #[{ on:=2,ground:=Ground.gcOnly Departure.lateStores }],guard:=none }) (v:= .agg #[.string (outT c).name, .string (outT c).sup, .int .i64 (outT c).acc, .slice Bi (outT c).ifs.length ji, .slice Bf (outT c).flds.length jf, .slice Bm (outT c).mths.length jm]) rfl (by kernel_rfl) (by kernel_rfl) (by kernel_rfl) (fun _ _ _ h=>h) (Or.inl ⟨by rfl,fun w' hw'=>yields_row rfl rfl hw'.2 Tryz.underlying75 rfl (by kernel_rfl)⟩) hS ?_
    simp only [Act.put,List.setIfInBounds_toArray,List.set_cons_zero,List.set_cons_succ]
    refine wpAnyH_ready (rs:= [2]) (by kernel_rfl) (by simp) ?_
    refine AllReadyH.cons (o:={ dst:=none,op:=Op.store 104 (Operand.tmp 4) (Operand.tmp 60),type:=0,pos:= "load.go:89",after:= #[{ on:=0,ground:=Ground.data },{ on:=0,ground:=Ground.phase },{ on:=1,ground:=Ground.textOnly Departure.lateStores }],guard:=none }) rfl (fun K hK=> ?_) AllReadyH.nil
    refine if_pos_mp (by rfl) ?_
    refine wp_store_row _ _ _ rfl w.heap.size #[.int .i64 c.minor, .int .i64 c.major, .slice Ap c.pool.length kp, .int .i64 c.acc, .int .i64 c.this, .int .i64 c.sup, .slice Ai c.ifs.length ki, .slice Af c.flds.length kf, .slice Am c.mths.length km] rfl rfl _ _ D.out.rd.r4 (by kernel_rfl) rfl (by simp [Value.oneCell']) ?_
    refine hK.out _ _ ⟨(setRow_other _ w.heap.size G _ (by omega)).trans D.out.gc,(setRow_other _ w.heap.size (G+1) _ (by omega)).trans D.out.gt⟩ (fun hS2=> ?_)
    clear hK K
    simp only [Act.put,List.setIfInBounds_toArray,List.set_cons_zero,List.set_cons_succ]
    refine wpAnyH_ready (rs:= [3]) (by kernel_rfl) (by simp) ?_
    refine AllReadyH.cons (o:={ dst:=none,op:=Op.store 75 (Operand.tmp 5) (Operand.tmp 61),type:=0,pos:= "load.go:89",after:= #[{ on:=1,ground:=Ground.data },{ on:=2,ground:=Ground.chain },{ on:=0,ground:=Ground.phase },{ on:=1,ground:=Ground.phase },{ on:=2,ground:=Ground.phase }],guard:=none }) rfl (fun K hK=> ?_) AllReadyH.nil
    refine if_pos_mp (by rfl) ?_
    refine wp_store_row _ _ _ rfl (w.heap.size+1) #[.string (outT c).name, .string (outT c).sup, .int .i64 (outT c).acc, .slice Bi (outT c).ifs.length ji, .slice Bf (outT c).flds.length jf, .slice Bm (outT c).mths.length jm] rfl rfl _ _ ((setRow_other _ w.heap.size (w.heap.size+1) _ (by omega)).trans D.out.rd.r5) (by kernel_rfl) rfl (by simp [Value.oneCell']) ?_
    refine hK.out _ _ ⟨(setRow_other _ (w.heap.size+1) G _ (by omega)).trans hS2.1,(setRow_other _ (w.heap.size+1) (G+1) _ (by omega)).trans hS2.2⟩ (fun hS3=> ?_)
    clear hK K
    simp only [Act.put,List.setIfInBounds_toArray,List.set_cons_zero,List.set_cons_succ]
    refine wpAnyH_ready (rs:= [4]) (by kernel_rfl) (by simp) ?_
    refine AllReadyH.cons (o:={ dst:=some 6,op:=Op.assign (Operand.const Value.nilIface),type:=87,pos:= "load.go:89",after:= #[{ on:=3,ground:=Ground.chain },{ on:=0,ground:=Ground.phase },{ on:=1,ground:=Ground.phase },{ on:=2,ground:=Ground.phase },{ on:=3,ground:=Ground.phase }],guard:=none }) rfl (fun K hK=> ?_) AllReadyH.nil
    go_simp
    refine hK.out _ _ hS3 (fun _=> ?_)
    clear hK K
    refine wpAnyH_done (by kernel_rfl) ?_ _
    go_wp2_with fail
    refine bodyPost_ret (results_cct rfl rfl rfl rfl ((setRow_other _ (w.heap.size+1) w.heap.size _ (by omega)).trans (D.out.rd.r4.row [.int .i64 c.minor, .int .i64 c.major, .slice Ap c.pool.length kp, .int .i64 c.acc, .int .i64 c.this, .int .i64 c.sup, .slice Ai c.ifs.length ki, .slice Af c.flds.length kf, .slice Am c.mths.length km])) (Bx.row (vs:=zeroTyp) ((setRow_other _ w.heap.size (w.heap.size+1) _ (by omega)).trans D.out.rd.r5) [.string (outT c).name, .string (outT c).sup, .int .i64 (outT c).acc, .slice Bi (outT c).ifs.length ji, .slice Bf (outT c).flds.length jf, .slice Bm (outT c).mths.length jm]) rfl rfl (by kernel_rfl) rfl rfl (by kernel_rfl)) rfl ?_
    have hkk:=fun(ok:Nat→Prop) (hok: ∀g,ok g→w.heap.size+2≤g)=> ((Kept.of_below (ok:=ok) ((Below.refl w7.heap.size w7).drew)).trans (Kept.of_but (ok:=ok) (but_row w7.drew w.heap.size #[.int .i64 c.minor, .int .i64 c.major, .slice Ap c.pool.length kp, .int .i64 c.acc, .int .i64 c.this, .int .i64 c.sup, .slice Ai c.ifs.length ki, .slice Af c.flds.length kf, .slice Am c.mths.length km]) (fun g hg hm=>by have:=hok g hg;simp at hm;omega))).trans (Kept.of_but (ok:=ok) (but_row (w7.drew.setRow w.heap.size #[.int .i64 c.minor, .int .i64 c.major, .slice Ap c.pool.length kp, .int .i64 c.acc, .int .i64 c.this, .int .i64 c.sup, .slice Ai c.ifs.length ki, .slice Af c.flds.length kf, .slice Am c.mths.length km]) (w.heap.size+1) #[.string (outT c).name, .string (outT c).sup, .int .i64 (outT c).acc, .slice Bi (outT c).ifs.length ji, .slice Bf (outT c).flds.length jf, .slice Bm (outT c).mths.length jm]) (fun g hg hm=>by have:=hok g hg;simp at hm;omega))
    exact⟨below_row (below_row D.out.rd.bel _ _ (Nat.le_refl _)) _ _ (by omega),_,_,_,_,_,_,_,rfl,(HC7.out.keep (hkk _ (fun g hg=>hg))).mono (fun g _ hg=>by omega),(HT7.out.keep (hkk _ (fun g hg=>by simp at hg;omega))).mono (fun g _ hg=>by simp at hg;omega)⟩
   ·have HRR:r= .error noDefB:=by rw [HRQ.out,if_neg (by omega),if_neg (by omega),if_neg hnm]
    subst HRR
    have hnb:((outT c).name.toList==name.toList)=false:=list_ne hnm
    clear HRQ hnm
    go_wp2_with fail
    have D:=Lib.hid (RG7.out.below ((Below.refl _ _).drew))
    refine wp_region_held_drew (S:=fun w'=>Bx w' G [.int .i64 c.minor, .int .i64 c.major, .slice Ap c.pool.length kp, .int .i64 c.acc, .int .i64 c.this, .int .i64 c.sup, .slice Ai c.ifs.length ki, .slice Af c.flds.length kf, .slice Am c.mths.length km] 104∧Bx w' (G+1) [.string (outT c).name, .string (outT c).sup, .int .i64 (outT c).acc, .slice Bi (outT c).ifs.length ji, .slice Bf (outT c).flds.length jf, .slice Bm (outT c).mths.length jm] 75) rfl ⟨D.out.gc,D.out.gt⟩ (fun hS=> ?_)
    refine wpAnyH_take (i:=0) (oi:={ dst:=some 57,op:=Op.load 104 (Operand.tmp 9),type:=104,pos:= "load.go:87",after:= #[],guard:=none }) (v:= .agg #[.int .i64 c.minor, .int .i64 c.major, .slice Ap c.pool.length kp, .int .i64 c.acc, .int .i64 c.this, .int .i64 c.sup, .slice Ai c.ifs.length ki, .slice Af c.flds.length kf, .slice Am c.mths.length km]) rfl (by kernel_rfl) (by kernel_rfl) (by kernel_rfl) (fun _ _ _ h=>h) (Or.inl ⟨by rfl,fun w' hw'=>yields_row rfl rfl hw'.1 Tryz.underlying104 rfl (by kernel_rfl)⟩) hS ?_
    refine wpAnyH_take (i:=1) (oi:={ dst:=some 58,op:=Op.load 75 (Operand.tmp 12),type:=75,pos:= "load.go:87",after:= #[{ on:=3,ground:=Ground.gcOnly Departure.lateStores }],guard:=none }) (v:= .agg #[.string (outT c).name, .string (outT c).sup, .int .i64 (outT c).acc, .slice Bi (outT c).ifs.length ji, .slice Bf (outT c).flds.length jf, .slice Bm (outT c).mths.length jm]) rfl (by kernel_rfl) (by kernel_rfl) (by kernel_rfl) (fun _ _ _ h=>h) (Or.inl ⟨by rfl,fun w' hw'=>yields_row rfl rfl hw'.2 Tryz.underlying75 rfl (by kernel_rfl)⟩) hS ?_
    simp only [Act.put,List.setIfInBounds_toArray,List.set_cons_zero,List.set_cons_succ]
    refine wpAnyH_ready (rs:= [2]) (by kernel_rfl) (by simp) ?_
    refine AllReadyH.cons (o:={ dst:=some 59,op:=Op.call { callee:=Callee.value (Operand.func 72),args:= #[Operand.const (Value.string { data:= #[78,111,67,108,97,115,115,68,101,102,70,111,117,110,100,69,114,114,111,114] })],argTypes:= #[9] },type:=87,pos:= "load.go:87",after:= #[],guard:=none }) rfl (fun K hK=> ?_) AllReadyH.nil
    go_wp2_with (go_at_call 72;refine(failed_any _ (by decide) _).mono ?_;rintro e w1 ⟨rfl,rfl⟩)
    refine hK.out _ _ hS (fun hS1=> ?_)
    clear hK K
    try simp only [Act.put,List.setIfInBounds_toArray,List.set_cons_zero,List.set_cons_succ]
    refine wpAnyH_ready (rs:= [3]) (by kernel_rfl) (by simp) ?_
    refine AllReadyH.cons (o:={ dst:=none,op:=Op.store 104 (Operand.tmp 4) (Operand.tmp 57),type:=0,pos:= "load.go:87",after:= #[{ on:=0,ground:=Ground.data },{ on:=2,ground:=Ground.chain },{ on:=0,ground:=Ground.phase },{ on:=1,ground:=Ground.textOnly Departure.lateStores },{ on:=2,ground:=Ground.textOnly Departure.lateStoresUnsure }],guard:=none }) rfl (fun K hK=> ?_) AllReadyH.nil
    refine if_pos_mp (by rfl) ?_
    refine wp_store_row _ _ _ rfl w.heap.size #[.int .i64 c.minor, .int .i64 c.major, .slice Ap c.pool.length kp, .int .i64 c.acc, .int .i64 c.this, .int .i64 c.sup, .slice Ai c.ifs.length ki, .slice Af c.flds.length kf, .slice Am c.mths.length km] rfl rfl _ _ D.out.rd.r4 (by kernel_rfl) rfl (by simp [Value.oneCell']) ?_
    refine hK.out _ _ ⟨(setRow_other _ w.heap.size G _ (by omega)).trans D.out.gc,(setRow_other _ w.heap.size (G+1) _ (by omega)).trans D.out.gt⟩ (fun hS2=> ?_)
    clear hK K
    simp only [Act.put,List.setIfInBounds_toArray,List.set_cons_zero,List.set_cons_succ]
    refine wpAnyH_ready (rs:= [4]) (by kernel_rfl) (by simp) ?_
    refine AllReadyH.cons (o:={ dst:=none,op:=Op.store 75 (Operand.tmp 5) (Operand.tmp 58),type:=0,pos:= "load.go:87",after:= #[{ on:=1,ground:=Ground.data },{ on:=3,ground:=Ground.chain },{ on:=0,ground:=Ground.phase },{ on:=1,ground:=Ground.phase },{ on:=2,ground:=Ground.textOnly Departure.lateStoresUnsure },{ on:=3,ground:=Ground.phase }],guard:=none }) rfl (fun K hK=> ?_) AllReadyH.nil
    refine if_pos_mp (by rfl) ?_
    refine wp_store_row _ _ _ rfl (w.heap.size+1) #[.string (outT c).name, .string (outT c).sup, .int .i64 (outT c).acc, .slice Bi (outT c).ifs.length ji, .slice Bf (outT c).flds.length jf, .slice Bm (outT c).mths.length jm] rfl rfl _ _ ((setRow_other _ w.heap.size (w.heap.size+1) _ (by omega)).trans D.out.rd.r5) (by kernel_rfl) rfl (by simp [Value.oneCell']) ?_
    refine hK.out _ _ ⟨(setRow_other _ (w.heap.size+1) G _ (by omega)).trans hS2.1,(setRow_other _ (w.heap.size+1) (G+1) _ (by omega)).trans hS2.2⟩ (fun hS3=> ?_)
    clear hK K
    simp only [Act.put,List.setIfInBounds_toArray,List.set_cons_zero,List.set_cons_succ]
    refine wpAnyH_ready (rs:= [5]) (by kernel_rfl) (by simp) ?_
    refine AllReadyH.cons (o:={ dst:=some 6,op:=Op.assign (Operand.tmp 59),type:=87,pos:= "load.go:87",after:= #[{ on:=2,ground:=Ground.data },{ on:=4,ground:=Ground.chain },{ on:=0,ground:=Ground.phase },{ on:=1,ground:=Ground.phase },{ on:=2,ground:=Ground.phase },{ on:=3,ground:=Ground.phase },{ on:=4,ground:=Ground.phase }],guard:=none }) rfl (fun K hK=> ?_) AllReadyH.nil
    go_simp
    refine hK.out _ _ hS3 (fun _=> ?_)
    clear hK K
    refine wpAnyH_done (by kernel_rfl) ?_ _
    go_wp2_with fail
    refine bodyPost_ret (results_cct rfl rfl rfl rfl ((setRow_other _ (w.heap.size+1) w.heap.size _ (by omega)).trans (D.out.rd.r4.row [.int .i64 c.minor, .int .i64 c.major, .slice Ap c.pool.length kp, .int .i64 c.acc, .int .i64 c.this, .int .i64 c.sup, .slice Ai c.ifs.length ki, .slice Af c.flds.length kf, .slice Am c.mths.length km])) (Bx.row (vs:=zeroTyp) ((setRow_other _ w.heap.size (w.heap.size+1) _ (by omega)).trans D.out.rd.r5) [.string (outT c).name, .string (outT c).sup, .int .i64 (outT c).acc, .slice Bi (outT c).ifs.length ji, .slice Bf (outT c).flds.length jf, .slice Bm (outT c).mths.length jm]) rfl rfl (by kernel_rfl) rfl rfl (by kernel_rfl)) rfl ?_
    exact⟨below_row (below_row D.out.rd.bel _ _ (Nat.le_refl _)) _ _ (by omega), [.int .i64 c.minor, .int .i64 c.major, .slice Ap c.pool.length kp, .int .i64 c.acc, .int .i64 c.this, .int .i64 c.sup, .slice Ai c.ifs.length ki, .slice Af c.flds.length kf, .slice Am c.mths.length km], [.string (outT c).name, .string (outT c).sup, .int .i64 (outT c).acc, .slice Bi (outT c).ifs.length ji, .slice Bf (outT c).flds.length jf, .slice Bm (outT c).mths.length jm],rfl,rfl,by simp [Value.oneCell'],by simp [Value.oneCell'],rfl⟩
end Go.Proofs.YtpbnjakeielipaaGreatDoor
