/-
  What the laws rest on, part 30: walks of the program's functions and plain laws. Conditions: none but those that each theorem names.
-/
import Derived.Test.YtpbnjakeielipaaGreatDoorB15
import Derived.LaidEql
import Derived.Stop.Asserts
import Derived.RowKitTokens
import Derived.Test.YtpbnjakeielipaaGreatDoorB28
import Derived.Test.YtpbnjakeielipaaGreatDoorB16
import Derived.Test.YtpbnjakeielipaaGreatDoorB25
import Derived.Test.YtpbnjakeielipaaGreatDoorB00
import Derived.Deep.RegionHeld2
import Derived.BigQuiet
import Derived.Deep.QuietTactic
set_option linter.unusedSimpArgs false
set_option linter.unusedVariables false
set_option maxRecDepth 100000
set_option maxHeartbeats 4000000
namespace Go.Proofs.YtpbnjakeielipaaGreatDoor
open Go Go.RowKit Lib Go.Extern.Stop Go.Stop Go.Extern
theorem Aw.valueOf71 (t:Addr) (w:World):(ReflectliteValue.unpack (.iface 93 (.pointer (some t)))).run Tryz.prog w
  = .ok (.agg #[.pointer (some ⟨2,93,none⟩), .pointer (some ⟨w.heap.size,0,none⟩), .int .u64 150]) (w.alloc (.cells #[.pointer (some t)] 93)):=by kernel_rfl
theorem Aw.type71 (a:Addr) (w:World):(ReflectliteValue.methodAny (ReflectliteValue.valueError "reflectlite.Value.Type" 0) (fun t _ _ _=>ReflectliteType.toType t) #[.agg #[.pointer (some ⟨2,93,none⟩), .pointer (some a), .int .u64 150]]).run Tryz.prog w
  = .ok (.iface 194 (.agg #[.pointer (some ⟨2,93,none⟩)])) w:=by kernel_rfl
theorem Aw.kind71 (w:World):((ReflectliteType.abiMethod fun t=> (fun a:Nat=>Value.int IntKind.u8 (a:Int)) <$>Rtype.kind t) #[.pointer (some ⟨2,93,none⟩)]).run Tryz.prog w= .ok (.int .u8 22) w:=by kernel_rfl
theorem Aw.kind66 (w:World):((ReflectliteType.abiMethod fun t=> (fun a:Nat=>Value.int IntKind.u8 (a:Int)) <$>Rtype.kind t) #[.pointer (some ⟨2,88,none⟩)]).run Tryz.prog w= .ok (.int .u8 24) w:=by kernel_rfl
theorem Aw.elem71 (w:World):(ReflectliteType.method ReflectliteType.elem #[.agg #[.pointer (some ⟨2,93,none⟩)]]).run Tryz.prog w= .ok (.iface 194 (.agg #[.pointer (some ⟨2,88,none⟩)])) w:=by kernel_rfl
theorem Aw.implements66 (w:World):(ReflectliteType.relation "Implements" ReflectliteType.implements_ #[.agg #[.pointer (some ⟨2,88,none⟩)], .iface 194 (.agg #[.pointer (some ⟨2,87,none⟩)])]).run Tryz.prog w= .ok (.bool true) w:=by kernel_rfl
theorem Aw.typeOf66 (v:Value) (w:World):(ReflectliteType.typeOf #[.iface 88 v]).run Tryz.prog w= .ok (.iface 194 (.agg #[.pointer (some ⟨2,88,none⟩)])) w:=by kernel_rfl
theorem Aw.assignable66 (w:World):(ReflectliteType.relation "AssignableTo" ReflectliteType.assignableTo #[.agg #[.pointer (some ⟨2,88,none⟩)], .iface 194 (.agg #[.pointer (some ⟨2,88,none⟩)])]).run Tryz.prog w= .ok (.bool true) w:=by kernel_rfl
theorem Aw.valueOf66 (s:ByteArray) (w:World):(ReflectliteValue.unpack (.iface 88 (.string s))).run Tryz.prog w
  = .ok (.agg #[.pointer (some ⟨2,88,none⟩), .pointer (some ⟨w.heap.size,0,none⟩), .int .u64 152]) (w.alloc (.cells #[.string s] 88)):=by kernel_rfl
theorem Aw.parts71 (a:Addr) (w:World):(ReflectliteValue.parts (.agg #[.pointer (some ⟨2,93,none⟩), .pointer (some a), .int .u64 150])).run Tryz.prog w= .ok (some (93,a,150)) w:=by kernel_rfl
theorem Aw.parts66 (a:Addr) (w:World):(ReflectliteValue.parts (.agg #[.pointer (some ⟨2,88,none⟩), .pointer (some a), .int .u64 152])).run Tryz.prog w= .ok (some (88,a,152)) w:=by kernel_rfl
theorem Aw.parts66a (a:Addr) (w:World):(ReflectliteValue.parts (.agg #[.pointer (some ⟨2,88,none⟩), .pointer (some a), .int .u64 408])).run Tryz.prog w= .ok (some (88,a,408)) w:=by kernel_rfl
theorem Aw.elemOf71 (w:World):(Rtype.elem? 93).run Tryz.prog w= .ok (some 88) w:=by kernel_rfl
theorem Aw.mk66 (p:Addr) (w:World):(ReflectliteValue.mk 88 p ReflectliteValue.flagAddr).run Tryz.prog w= .ok (.agg #[.pointer (some ⟨2,88,none⟩), .pointer (some p), .int .u64 408]) w:=by kernel_rfl
theorem Aw.direct66 (w:World):(Rtype.directlyAssignable 88 88).run Tryz.prog w= .ok true w:=by kernel_rfl
theorem Aw.isNil71 (a p:Addr) (W:World) (ha:W.cell? a=some (.pointer (some p))):
  (ReflectliteValue.method (ReflectliteValue.valueError "reflectlite.Value.IsNil" 0) ReflectliteValue.isNil #[.agg #[.pointer (some ⟨2,93,none⟩), .pointer (some a), .int .u64 150]]).run Tryz.prog W= .ok (.bool false) W:=by
 rw [As.rlm]
 simp only [Sem.run_bind,Aw.parts71,Result.andThen]
 simp [ReflectliteValue.isNil,loadVar,isAgg,underlying,Tryz.underlying93,ha,Result.andThen]
theorem Aw.elemV71 (a p:Addr) (W:World) (ha:W.cell? a=some (.pointer (some p))):
  (ReflectliteValue.method (ReflectliteValue.valueError "reflectlite.Value.Elem" 0) ReflectliteValue.elem #[.agg #[.pointer (some ⟨2,93,none⟩), .pointer (some a), .int .u64 150]]).run Tryz.prog W
   = .ok (.agg #[.pointer (some ⟨2,88,none⟩), .pointer (some p), .int .u64 408]) W:=by
 rw [As.rlm]
 simp only [Sem.run_bind,Aw.parts71,Result.andThen]
 simp [ReflectliteValue.elem,loadVar,isAgg,underlying,Tryz.underlying93,ha,Result.andThen,Aw.elemOf71,Aw.mk66]
theorem Aw.set66 (ta b:Addr) (s:ByteArray) (old:Value) (W:World) (hb:W.cell? b=some (.string s)) (ht:W.cell? ta=some old) (hf:W.frozen? ta=false):
  (ReflectliteValue.set #[.agg #[.pointer (some ⟨2,88,none⟩), .pointer (some ta), .int .u64 408], .agg #[.pointer (some ⟨2,88,none⟩), .pointer (some b), .int .u64 152]]).run Tryz.prog W
   = .ok (.tuple #[]) (W.setCell ta (.string s)):=by
 rw [As.rls]
 simp only [Sem.run_bind,Aw.parts66a,Aw.parts66,Result.andThen]
 simp [ReflectliteValue.flagAddr,loadVar,isAgg,underlying,Tryz.underlying88,hb,Result.andThen,Aw.direct66,storeVar,Value.cells,storeCells,Addr.add]
 rw [run_store Tryz.prog W ta _ _ (by rfl)]
 simp [ht,hf]
theorem aw44 {x:Value} (s:ByteArray) (hx:x= .iface 88 (.string s)) (t a:Nat) (old:Value) (W:World) (ha:W.cell? ⟨a,0,none⟩=some (.pointer (some ⟨t,0,none⟩))) (ht:W.cell? ⟨t,0,none⟩=some old) (hf:W.frozen? ⟨t,0,none⟩=false):
  Calls Tryz.prog 58 #[x, .iface 93 (.pointer (some ⟨t,0,none⟩)), .agg #[.pointer (some ⟨2,93,none⟩), .pointer (some ⟨a,0,none⟩), .int .u64 150], .iface 194 (.agg #[.pointer (some ⟨2,88,none⟩)])] W
   fun e W'=>e= .returned (.bool true)∧ ∃Wm,Below W.heap.size W Wm∧W'=Wm.setCell ⟨t,0,none⟩ (.string (s)):=by
 have h41:= @run_callFunc_extern Tryz.prog 55 _ (fun args=>ReflectliteValue.unpack (args.getD 0 (.tuple #[]))) Tryz.func55 (by kernel_rfl) (by kernel_rfl) (by kernel_rfl) (by kernel_rfl)
 have h64:= @run_callFunc_extern Tryz.prog 85 _ ReflectliteType.typeOf Tryz.func85 (by kernel_rfl) (by kernel_rfl) (by kernel_rfl) (by kernel_rfl)
 have h200:= @run_callFunc_extern Tryz.prog 201 _ (ReflectliteType.relation "AssignableTo" ReflectliteType.assignableTo) Tryz.func201 (by kernel_rfl) (by kernel_rfl) (by kernel_rfl) (by kernel_rfl)
 have h65:= @run_callFunc_extern Tryz.prog 86 _ (ReflectliteValue.method (ReflectliteValue.valueError "reflectlite.Value.Elem" 0) ReflectliteValue.elem) Tryz.func86 (by kernel_rfl) (by kernel_rfl) (by kernel_rfl) (by kernel_rfl)
 have h66:= @run_callFunc_extern Tryz.prog 87 _ ReflectliteValue.set Tryz.func87 (by kernel_rfl) (by kernel_rfl) (by kernel_rfl) (by kernel_rfl)
 have hal:a<W.heap.size:=World.block_lt_of_cell? W ⟨a,0,none⟩ ha
 have htl:t<W.heap.size:=World.block_lt_of_cell? W ⟨t,0,none⟩ ht
 have X0:=Lib.hid (bx_new W [.pointer (some ⟨2,93,none⟩), .pointer (some ⟨a,0,none⟩), .int .u64 150] 152)
 have HX:=Lib.hid hx
 have HA:=Lib.hid ((World.cell?_alloc_lt W (.cells #[.pointer (some ⟨2,93,none⟩), .pointer (some ⟨a,0,none⟩), .int .u64 150] 152) ⟨a,0,none⟩ hal).trans ha)
 have HT:=Lib.hid ((World.cell?_alloc_lt W (.cells #[.pointer (some ⟨2,93,none⟩), .pointer (some ⟨a,0,none⟩), .int .u64 150] 152) ⟨t,0,none⟩ htl).trans ht)
 have HF:=Lib.hid ((World.frozen?_alloc_old W (.cells #[.pointer (some ⟨2,93,none⟩), .pointer (some ⟨a,0,none⟩), .int .u64 150] 152) ⟨t,0,none⟩ (Nat.ne_of_lt htl)).trans hf)
 clear hx ha ht hf
 go_enter Tryz.func58,Tryz.ntmps58
 go_wp2_with fail
 go_loopw [0] (fun v0 wr=> ∃x',v0=x'∧Hid (x'= .iface 88 (.string s))∧Hid (Below (W.heap.size+1) (W.alloc (.cells #[.pointer (some ⟨2,93,none⟩), .pointer (some ⟨a,0,none⟩), .int .u64 150] 152)) wr)) (fun v0 _=>SizeOf.sizeOf v0)
 case atStart=>exact⟨x,rfl,HX,Lib.hid (Below.refl _ _)⟩
 case round=>
  obtain⟨x',rfl,HE,HB⟩:=hrel
  have hsz:=HB.out.size
  simp only [World.size_alloc] at hsz
  have b0:=(HB.out.cell (p:=⟨W.heap.size,0,none⟩) (by simp)).trans (X0.out.cell 0 rfl)
  have b1:=(HB.out.cell (p:=⟨W.heap.size,1,none⟩) (by simp)).trans (X0.out.cell 1 rfl)
  have b2:=(HB.out.cell (p:=⟨W.heap.size,2,none⟩) (by simp)).trans (X0.out.cell 2 rfl)
  have ca:=(HB.out.cell (p:=⟨a,0,none⟩) (by simp;omega)).trans HA.out
  have ct:=(HB.out.cell (p:=⟨t,0,none⟩) (by simp;omega)).trans HT.out
  have zt:=(HB.out.frozen (p:=⟨t,0,none⟩) (by simp;omega)).trans HF.out
  have mA:=As.methodAssignableTo
  have he:=HE.out
  clear HE
  subst he
  have tO:=Aw.typeOf66
  have a66:=Aw.assignable66
  have v66:=Aw.valueOf66 (s) wr
  have el:=Aw.elemV71 ⟨a,0,none⟩ ⟨t,0,none⟩ wr ca
  have st:=Aw.set66 ⟨t,0,none⟩ ⟨wr.heap.size,0,none⟩ (s) old (wr.alloc (.cells #[.string (s)] 88)) (by rw [World.cell?_alloc_at _ _ _ _ (by simp)];rfl) (by rw [World.cell?_alloc_lt _ _ _ (by simp;omega)];exact ct) (by rw [World.frozen?_alloc_old _ _ _ (by simp;omega)];exact zt)
  have HW:=Lib.hid (((Below.refl W.heap.size W).alloc (Nat.le_refl _) (.cells #[.pointer (some ⟨2,93,none⟩), .pointer (some ⟨a,0,none⟩), .int .u64 150] 152)).trans ((HB.out.alloc hsz (.cells #[.string (s)] 88)).mono (by omega)))
  go_wp2
  go_ret
  exact⟨rfl,_,HW.out,rfl⟩
theorem aw_any {x:Value} (s:ByteArray) (hx:x= .iface 88 (.string s)) (t:Nat) (old:Value) (W:World) (hg:W.cell? ⟨0,0,none⟩=some (.iface 194 (.agg #[.pointer (some ⟨2,87,none⟩)]))) (ht:W.cell? ⟨t,0,none⟩=some old) (hf:W.frozen? ⟨t,0,none⟩=false):
  Calls Tryz.prog 30 #[x, .iface 93 (.pointer (some ⟨t,0,none⟩))] W fun e W'=>e= .returned (.bool true)∧ ∃Wm,Below W.heap.size W Wm∧W'=Wm.setCell ⟨t,0,none⟩ (.string (s)):=by
 subst hx
 have h41:= @run_callFunc_extern Tryz.prog 55 _ (fun args=>ReflectliteValue.unpack (args.getD 0 (.tuple #[]))) Tryz.func55 (by kernel_rfl) (by kernel_rfl) (by kernel_rfl) (by kernel_rfl)
 have h42:= @run_callFunc_extern Tryz.prog 56 _ (ReflectliteValue.methodAny (ReflectliteValue.valueError "reflectlite.Value.Type" 0) (fun t _ _ _=>ReflectliteType.toType t)) Tryz.func56 (by kernel_rfl) (by kernel_rfl) (by kernel_rfl) (by kernel_rfl)
 have h43:= @run_callFunc_extern Tryz.prog 57 _ (ReflectliteValue.method (ReflectliteValue.valueError "reflectlite.Value.IsNil" 0) ReflectliteValue.isNil) Tryz.func57 (by kernel_rfl) (by kernel_rfl) (by kernel_rfl) (by kernel_rfl)
 have h192:= @run_callFunc_extern Tryz.prog 186 _ (ReflectliteType.abiMethod fun t=>do pure (.int .u8 (←Rtype.kind t))) Tryz.func186 (by kernel_rfl) (by kernel_rfl) (by kernel_rfl) (by kernel_rfl)
 have h202:= @run_callFunc_extern Tryz.prog 203 _ (ReflectliteType.method ReflectliteType.elem) Tryz.func203 (by kernel_rfl) (by kernel_rfl) (by kernel_rfl) (by kernel_rfl)
 have h203:= @run_callFunc_extern Tryz.prog 204 _ (ReflectliteType.relation "Implements" ReflectliteType.implements_) Tryz.func204 (by kernel_rfl) (by kernel_rfl) (by kernel_rfl) (by kernel_rfl)
 have f41:=Aw.valueOf71 ⟨t,0,none⟩ W
 have f42:=Aw.type71
 have mK:=As.methodKind
 have mE:=As.methodElem
 have mI:=As.methodImplements
 have k71:=Aw.kind71
 have k66:=Aw.kind66
 have e71:=Aw.elem71
 have i66:=Aw.implements66
 have hlt:0<W.heap.size:=World.block_lt_of_cell? W ⟨0,0,none⟩ hg
 have htl:t<W.heap.size:=World.block_lt_of_cell? W ⟨t,0,none⟩ ht
 have n43:=Aw.isNil71 ⟨W.heap.size,0,none⟩ ⟨t,0,none⟩ ((W.alloc (.cells #[.pointer (some ⟨t,0,none⟩)] 93)).alloc (.cells #[.pointer (some ⟨2,93,none⟩), .pointer (some ⟨W.heap.size,0,none⟩), .int .u64 150] 152)) (by simp)
 have hg2:((W.alloc (.cells #[.pointer (some ⟨t,0,none⟩)] 93)).alloc (.cells #[.pointer (some ⟨2,93,none⟩), .pointer (some ⟨W.heap.size,0,none⟩), .int .u64 150] 152)).cell? ⟨0,0,none⟩=some (.iface 194 (.agg #[.pointer (some ⟨2,87,none⟩)])):=by
  rw [World.cell?_alloc_lt _ _ ⟨0,0,none⟩ (by simp),World.cell?_alloc_lt _ _ ⟨0,0,none⟩ hlt];exact hg
 have HB:=Lib.hid (((Below.refl W.heap.size W).alloc (Nat.le_refl _) (.cells #[.pointer (some ⟨t,0,none⟩)] 93)).alloc (by simp) (.cells #[.pointer (some ⟨2,93,none⟩), .pointer (some ⟨W.heap.size,0,none⟩), .int .u64 150] 152))
 have HA:=Lib.hid (fun W2 (hw:W2=((W.alloc (.cells #[.pointer (some ⟨t,0,none⟩)] 93)).alloc (.cells #[.pointer (some ⟨2,93,none⟩), .pointer (some ⟨W.heap.size,0,none⟩), .int .u64 150] 152)))=>aw44 s rfl t W.heap.size old W2 (by rw [hw];simp) (by rw [hw];exact(HB.out.cell (p:=⟨t,0,none⟩) htl).trans ht) (by rw [hw];exact(HB.out.frozen (p:=⟨t,0,none⟩) htl).trans hf))
 clear ht hf
 go_enter Tryz.func30,Tryz.ntmps30
 go_wp2_with (go_at_call 58;refine stop_here ?_)
 refine go_on ?_
 refine(HA.out _ rfl).mono ?_
 rintro e w2 ⟨rfl,Wm,hb,rfl⟩
 have HB2:=Lib.hid (HB.out.trans (hb.mono HB.out.size))
 clear hb HA
 go_wp2_with fail
 go_ret
 exact⟨rfl,Wm,HB2.out,rfl⟩
end Go.Proofs.YtpbnjakeielipaaGreatDoor
namespace Go.Proofs.YtpbnjakeielipaaGreatDoor
open Go Go.RowKit Lib Go.Maps
def ResOk (B:Nat) (p:WPos) (L:LPos) (v:Value) (x:WSt) (T:Nat) (s:List UInt8) (n:Int) (A:Int→Prop) (W:World) (e:Ending) (w':World):Prop:=
 ∃(L':LPos) (v':Value) (x':WSt) (ent:EntV),e= .returned (.tuple #[.string ent.err, .int .i64 0])∧EntOk ent∧LLe L L'∧WdAt B p L' v' x' T w'∧WFr B p L v x W L' v' x' w'∧WKeep x x'∧entf x' s n=some ent∧ ∀y m,(y≠s∨m≠n∧ ¬A m)→entf x' y m=entf x y m
theorem constAt_some {F:List UInt8→Option ClassV} {s:List UInt8} {n:Int} {k:Ko} (h:constAt F s n=some k): ∃c,F s=some c∧1≤n∧n≤c.pool.length∧c.pool[(n - 1).toNat]?=some k∧plen F s=c.pool.length:=by
 unfold constAt at h
 rcases hf:F s with _|c
 ·rw [hf] at h;cases h
 ·rw [hf] at h
  simp only [Option.bind_some] at h
  split at h
  ·rename_i hr
   exact⟨c,rfl,hr.1,hr.2,h,by unfold plen;rw [hf];rfl⟩
  ·cases h
def resFn (t:Int):Nat:=if t=7 then 28 else 29
theorem entOk_st {e:EntV} (h:EntOk e):e.st≠0:=by
 rcases h with⟨h,_⟩ | ⟨h,_⟩ <;>omega
theorem WdK.moreT {B:Nat} {p:WPos} {L:LPos} {v:Value} {x:WSt} {k N T:Nat} {W:World} (h:WdK B p L v x k N T W) {T':Nat} (hT:T≤T'):WdK B p L v x k N T' W:=by
 obtain⟨F,n,s1,s2⟩:=h.pl
 exact{ h with pl:=⟨F,n,Nat.le_trans s1 hT,s2⟩,ea:=fun s q hq=> (h.ea s q hq).more hT }
theorem WdAt.moreT {B:Nat} {p:WPos} {L:LPos} {v:Value} {x:WSt} {T:Nat} {W:World} (h:WdAt B p L v x T W) {T':Nat} (hT:T≤T'):WdAt B p L v x T' W:=by
 obtain⟨k,h1,h2⟩:=h
 exact⟨k,h1,h2.moreT hT⟩
theorem grow_keep {x x1:WSt} {s:List UInt8} {q:PlV} (hg:Grow x x1 s) (hq:x1.pl s=some q) (hqq: ∀q0,x.pl s=some q0→q0=q):WKeep x x1:=
 ⟨by rw [hg.st];exact LKeep.refl _,fun y q0 h0=>by
  by_cases hy:y=s
  ·subst hy
   have:=hqq q0 h0
   subst this
   exact⟨q0,hq,rfl,rfl,rfl,fun _ _ h=>h⟩
  ·exact⟨q0,(hg.ot y hy).trans h0,rfl,rfl,rfl,fun _ _ h=>h⟩⟩
theorem grow_ent {x x1:WSt} {s:List UInt8} (hg:Grow x x1 s) (he: ∀n,((x1.pl s).bind fun q=>q.f n)=(x.pl s).bind fun q=>q.f n) (y:List UInt8) (m:Int):entf x1 y m=entf x y m:=by
 by_cases hy:y=s
 ·subst hy
  exact he m
 ·unfold entf
  rw [hg.ot y hy]
def tellX (x:WSt) (s:List UInt8) (q:PlV) (n:Int) (e:EntV):WSt:=⟨x.σ,putP x.pl s { q with f:=putE q.f n e }⟩
theorem tell_keep {x:WSt} {s:List UInt8} {q:PlV} {n:Int} (e:EntV) (hq:x.pl s=some q) (hf:q.f n=none):WKeep x (tellX x s q n e)∧entf (tellX x s q n e) s n=some e∧ ∀y m,(y≠s∨m≠n)→entf (tellX x s q n e) y m=entf x y m:=by
 refine⟨⟨LKeep.refl _,fun y q0 h0=> ?_⟩, ?_,fun y m hym=> ?_⟩
 ·by_cases hy:y=s
  ·subst hy
   rw [hq] at h0
   injection h0 with h0
   subst h0
   refine⟨{ q with f:=putE q.f n e },(by show putP x.pl y _ y=_;unfold putP;rw [if_pos rfl]),rfl,rfl,rfl,fun m e' hm=> ?_⟩
   show putE q.f n e m=_
   unfold putE
   split
   ·rename_i hmn
    rw [hmn,hf] at hm
    cases hm
   ·exact hm
  ·exact⟨q0,(by show putP x.pl s _ y=_;unfold putP;rw [if_neg hy];exact h0),rfl,rfl,rfl,fun _ _ h=>h⟩
 ·unfold entf
  show((putP x.pl s { q with f:=putE q.f n e } s).bind fun q=>q.f n)=_
  unfold putP
  rw [if_pos rfl]
  show putE q.f n e n=_
  unfold putE
  rw [if_pos rfl]
 ·unfold entf
  show((putP x.pl s { q with f:=putE q.f n e } y).bind fun q=>q.f m)=_
  unfold putP
  split
  ·rename_i hy
   subst hy
   rw [hq]
   show putE q.f n e m=q.f m
   unfold putE
   rw [if_neg (hym.resolve_left (fun h=>h rfl))]
  ·rfl
theorem res_fin {B:Nat} {p:WPos} {L L3:LPos} {v v3:Value} {x x3:WSt} {k3 T3:Nat} {W w11 w12:World} {s:List UInt8} {n:Int} {A:Int→Prop} {q3:PlV} (hK:WdK B p L3 v3 x3 k3 (k3*1048576) T3 w11) (hk3:k3≤x3.σ.ts.length) (hle:LLe L L3) (hwf:WFr B p L v x W L3 v3 x3 w11) (hwk:WKeep x x3) (hq3:x3.pl s=some q3) (hf3:q3.f n=none) (ent:EntV) (he:EntOk ent)
  (hE:EpAt w12 (T3+1) { q3 with f:=putE q3.f n ent }) (hb:But w11.heap.size [q3.m] w11 w12) (hen: ∀y m,(y≠s∨ ¬A m)→entf x3 y m=entf x y m):ResOk B p L v x (T3+1) s n A W (.returned (.tuple #[.string ent.err, .int .i64 0])) w12:=by
 obtain⟨t1,t2,t3⟩:=tell_keep ent hq3 hf3
 have hd:=hK.told hq3 (q':={ q3 with f:=putE q3.f n ent }) rfl rfl rfl (fun m e hm=>by
  have hm':putE q3.f n ent m=some e:=hm
  unfold putE at hm'
  split at hm'
  ·injection hm' with hm'
   exact hm'▸he
  ·exact hK.ok.en _ q3 hq3 m e hm') hE hb
 refine⟨L3,v3,tellX x3 s q3 n ent,ent,rfl,he,hle,⟨k3,hk3,hd⟩,⟨hwf.bel.trans (hb.mono (S':= []) hK.Ble (fun g hg hm=>by simp at hm;have:=(hK.lo.2.2.2 s q3 hq3).2;omega)).below,fun g hg ho=> ?_⟩,hwk.trans t1,t2,fun y m hym=> (t3 y m (hym.imp id And.left)).trans (hen y m (hym.imp id And.right))⟩
 obtain⟨h1,h2⟩:=hwf.out g hg ho
 refine⟨⟨h1.1,h1.2.1,fun y r hr=> ?_⟩,(hb.block g (Nat.lt_of_lt_of_le hg hwf.bel.size) (by simp;exact(h1.2.2 s q3 hq3).2)).trans h2⟩
 rcases putP_cases (show putP x3.pl s { q3 with f:=putE q3.f n ent } y=some r from hr) with⟨_,rfl⟩ | ⟨_,hr⟩
 ·exact h1.2.2 s q3 hq3
 ·exact h1.2.2 y r hr
theorem resolve_ok {B:Nat} {p:WPos} {L:LPos} {v:Value} {x:WSt} {T:Nat} {W:World} (h:WdAt B p L v x T W) (s:ByteArray) (hs:s.size≤1048576) (n:Int) (ko:Ko) (hc:constAt x.σ.F s.data.toList n=some ko) (ht:ko.tag=7∨ko.tag=9∨ko.tag=10∨ko.tag=11) (A:Int→Prop) (ha: ¬A n) (hT:T<1000000) (D:Nat) (hD:D≤10)
  (HC: ∀W' L1 v1 x1 T1,WdAt B p L1 v1 x1 T1 W'→x1.σ=x.σ→T1≤T+1→Calls Tryz.prog (resFn ko.tag) #[.pointer (some ⟨p.wb,0,none⟩), .string s,koV ko] W' (CmP B p L1 v1 x1 (T1+D) s.data.toList A W')):
  Calls Tryz.prog 9 #[.pointer (some ⟨p.wb,0,none⟩), .string s, .int .i64 n] W (ResOk B p L v x (T+1+D+1) s.data.toList n A W):=by
 obtain⟨c,hf,hn1,hn2,hpk,hpl⟩:=constAt_some hc
 obtain⟨k0,hk0,hK⟩:=h
 have hplen:=(hK.ok.fok _ c hf).len
 have hn64:I64 n:=⟨by omega,by omega⟩
 have hnm:=hK.ok.fl _ c hf
 obtain⟨g,cap,ts,hv,hkey,hTab,hc4⟩:=hK.ld.tab hK.ok.sm
 have c0:=hK.bx.cell 0 rfl
 have HTy:=Lib.hid (wtype_any p.wb L.lb g cap ts s W hTab c0 hc4)
 have HNM:=Lib.hid (show s.data.toList∈tns ts from tns_key hkey▸hnm)
 have HCo:=Lib.hid (fun W' (hb:Below W.heap.size W W')=>wconst_any p.wb (hK.ld.below hb) ((hK.below hb).bx.cell 0 rfl) s hs n hn64)
 rw [hc] at HCo
 have HEn:=Lib.hid (fun W' (hb:Below W.heap.size W W')=>wentries_any (hK.below hb) s hs hnm (by omega))
 have H0:=Lib.hid hK
 have HHC:=Lib.hid HC
 have hwl:=hK.wlt
 have hBle:=hK.Ble
 have HRD:=Lib.hid hTab.rd
 have HPL:=Lib.hid hpl
 clear HC hc hf hpk hK hv hkey hTab hc4 hnm c0 hpl
 go_enter Tryz.func9,Tryz.ntmps9
 go_wp2_with (go_at_call 24;refine HTy.out.mono ?_;rintro e w1 ⟨hb1,(⟨hno,_⟩ | ⟨kk,t,hk1,hk2,hk3,rfl⟩)⟩;(exact absurd HNM.out hno);refine stop_here ?_)
 obtain⟨r1,r2,r3⟩:=HRD.out t (List.mem_of_getElem? hk2)
 obtain⟨A1,q1,e1,_,_⟩:=sl_len r1
 obtain⟨A2,q2,e2,_,_⟩:=sl_len r2
 obtain⟨A3,q3,e3,_,_⟩:=sl_len r3
 rw [e1,e2,e3]
 have HB1:=Lib.hid hb1
 clear hk1 hk2 hk3 r1 r2 r3 e1 e2 e3 hb1 HTy HRD
 refine go_on ?_
 obtain⟨nm,hnm⟩: ∃nm,s.data=nm:=⟨_,rfl⟩
 have HB2:=Lib.hid (HB1.out.alloc HB1.out.size (.cells #[.string ⟨s.data⟩, .string ⟨t.sup.toArray⟩, .int .i64 t.acc, .slice A1 t.ifl.length q1, .slice A2 t.fl.length q2, .slice A3 t.ml.length q3] 75))
 have HCo2:=Lib.hid (HCo.out _ HB2.out)
 clear hnm HCo
 go_wp2_with (go_at_call 25;refine HCo2.out.mono ?_;rintro e w3 ⟨rfl,hb3⟩;refine stop_here ?_)
 have HB3:=Lib.hid (HB2.out.trans (hb3.mono HB2.out.size))
 obtain⟨kt,kx,kn,ka,kb⟩:=ko
 have HB4:=Lib.hid (HB3.out.alloc HB3.out.size (.cells #[.int .i64 kt, .string kx, .int .i64 kn, .int .i64 ka, .int .i64 kb] 81))
 have X4:=Lib.hid (bx_new w3 [.int .i64 kt, .string kx, .int .i64 kn, .int .i64 ka, .int .i64 kb] 81)
 have HEn4:=Lib.hid (HEn.out _ HB4.out)
 have hz3:=HB3.out.size
 clear hb3 HB2 HCo2 HEn
 refine go_on ?_
 unfold koV
 simp only [Option.getD_some,Option.isSome_some]
 go_wp2_with (go_at_call 26;refine HEn4.out.mono ?_;rintro e w5 ⟨q,L1,x1,rfl,hlb,hK1,hgr,hpl1,hent,hqq,hfr⟩;refine stop_here ?_)
 have hout0: ∀g,W.heap.size≤g→Out p L v x g:=fun g hg=>H0.out.outNew hg
 have X5:=Lib.hid (hfr.bx X4.out (hout0 _ (by omega)))
 have hfr4:WFr B p L v x W L1 v x1 w5:=(WFr.of_below hBle HB4.out).trans hfr
 have hz5:=hfr4.bel.size
 have hz45:w3.heap.size<w5.heap.size:=X5.out.lt
 -- two cells more, that are written to later
 have HB6:=Lib.hid (((Below.refl w5.heap.size w5).alloc (Nat.le_refl _) (.cells #[.string ⟨#[]⟩, .int .i64 0] 37)).alloc (by simp) (.cells #[.string ⟨#[]⟩] 88))
 have hz6:((w5.alloc (.cells #[.string ⟨#[]⟩, .int .i64 0] 37)).alloc (.cells #[.string ⟨#[]⟩] 88)).heap.size=w5.heap.size+2:=by simp
 have Y6:=Lib.hid ((bx_new w5 [.string ⟨#[]⟩, .int .i64 0] 37).below ((Below.refl _ (w5.alloc (.cells #[.string ⟨#[]⟩, .int .i64 0] 37))).alloc (Nat.le_refl _) (.cells #[.string ⟨#[]⟩] 88)) (by simp))
 have Z6:=Lib.hid (bx_new (w5.alloc (.cells #[.string ⟨#[]⟩, .int .i64 0] 37)) [.string ⟨#[]⟩] 88)
 rw [show(w5.alloc (.cells #[.string ⟨#[]⟩, .int .i64 0] 37)).heap.size=w5.heap.size+1 by simp] at Z6
 have hK6:=hK1.ands HB6.out [w5.heap.size,w5.heap.size+1] (by intro y hy;simp at hy;omega) (by intro y hy;simp at hy;rw [hz6];omega)
 have HSt:=Lib.hid (state_any (hK6.ea _ q hpl1) n hn64)
 have X6:=Lib.hid (X5.out.below HB6.out X5.out.lt)
 have x0:=X6.out.cell 0 rfl
 have HFR5:=Lib.hid hfr4
 have HLe:=Lib.hid (hlb.trans (LLe.and L1 [w5.heap.size,w5.heap.size+1]))
 have HGK:=Lib.hid (grow_keep hgr hpl1 hqq)
 have HGE:=Lib.hid (grow_ent hgr hent)
 have HST1:=Lib.hid hgr.st
 have HQ1:=Lib.hid hpl1
 have HEN:=Lib.hid (hK1.ok.en _ q hpl1)
 have HLN:=Lib.hid ((hK1.ok.ln _ q hpl1).trans (by rw [hgr.st,HPL.out]))
 have H6:=Lib.hid hK6
 have hout1: ∀g,w5.heap.size≤g→Out p L1 v x1 g:=fun g hg=>hK1.outNew hg
 have HO1:=Lib.hid hout1
 have hk1:k0≤x1.σ.ts.length:=by rw [hgr.st];exact hk0
 clear hfr hfr4 hlb hK1 hgr hpl1 hent hqq hK6 HEn4 hout0 hout1
 refine go_on ?_
 rcases hqf:q.f n with _|e0
 ·rw [hqf] at HSt
  have HQF:=Lib.hid hqf
  simp only [Option.getD_none,ent0] at HSt
  clear hqf
  rcases ht with ht|ht|ht|ht
  all_goals
   subst ht
   go_wp2_with (go_at_call 27;refine HSt.out.mono ?_;rintro e w7 ⟨rfl,hb7⟩;refine stop_here ?_)
  all_goals
   have HB8:=Lib.hid (hb7.alloc hb7.size (.cells #[.int .i64 0, .string ⟨#[]⟩] 54))
   have HW8:=Lib.hid (show WdAt B p (L1.and [w5.heap.size,w5.heap.size+1]) v x1 (T+1) (w7.alloc (.cells #[.int .i64 0, .string ⟨#[]⟩] 54)) from⟨k0,hk1,H6.out.below HB8.out⟩)
   have HCC:=Lib.hid (HHC.out _ _ _ _ _ HW8.out HST1.out (by omega))
   have X8:=Lib.hid (X6.out.below HB8.out X6.out.lt)
   have Y8:=Lib.hid (Y6.out.below HB8.out Y6.out.lt)
   have Z8:=Lib.hid (Z6.out.below HB8.out Z6.out.lt)
   have x80:=X8.out.cell 0 rfl
   have x81:=X8.out.cell 1 rfl
   have x82:=X8.out.cell 2 rfl
   have x83:=X8.out.cell 3 rfl
   have x84:=X8.out.cell 4 rfl
   have hz8:=HB8.out.size
   clear hb7 x0
   unfold koV at HCC
   refine go_on ?_
  rw [show resFn 7=28 from rfl] at HCC
  go_wp2_with (go_at_call 28;refine HCC.out.mono ?_;rintro e w9 ⟨L3,v3,x3,f,o,rfl,hon,hle3,h9,hfr9,hwk9,hen9⟩;refine stop_here ?_)
  rotate_left
  rw [show resFn 9=29 from rfl] at HCC
  go_wp2_with (go_at_call 29;refine HCC.out.mono ?_;rintro e w9 ⟨L3,v3,x3,f,o,rfl,hon,hle3,h9,hfr9,hwk9,hen9⟩;refine stop_here ?_)
  rotate_left
  rw [show resFn 10=29 from rfl] at HCC
  go_wp2_with (go_at_call 29;refine HCC.out.mono ?_;rintro e w9 ⟨L3,v3,x3,f,o,rfl,hon,hle3,h9,hfr9,hwk9,hen9⟩;refine stop_here ?_)
  rotate_left
  rw [show resFn 11=29 from rfl] at HCC
  go_wp2_with (go_at_call 29;refine HCC.out.mono ?_;rintro e w9 ⟨L3,v3,x3,f,o,rfl,hon,hle3,h9,hfr9,hwk9,hen9⟩;refine stop_here ?_)
  all_goals
   obtain⟨fc,fa⟩:=f
   have Y9:=Lib.hid (hfr9.bx Y8.out (HO1.out _ (Nat.le_refl _)))
   have Z9:=Lib.hid (hfr9.bx Z8.out (HO1.out _ (Nat.le_succ _)))
   have HOy:=Lib.hid (hfr9.out w5.heap.size (by omega) (HO1.out _ (Nat.le_refl _))).1
   have HOz:=Lib.hid (hfr9.out (w5.heap.size+1) (by omega) (HO1.out _ (Nat.le_succ _))).1
   have hexy:w5.heap.size∈L3.ex:=hle3.2 _ (List.mem_append_left _ (by simp))
   have hexz:w5.heap.size+1∈L3.ex:=hle3.2 _ (List.mem_append_left _ (by simp))
   have hz9:=hfr9.bel.size
   have y0:=Y9.out.cell 0 rfl
   have y1:=Y9.out.cell 1 rfl
   have z0:=Y9.out.frozen 0
   have z1:=Y9.out.frozen 1
   have Y10:=Lib.hid (bx_two Y9.out (.string fc) (.int .i64 fa))
   have Z10:=Lib.hid (show Bx ((w9.setCell ⟨w5.heap.size,0,none⟩ (.string fc)).setCell ⟨w5.heap.size,1,none⟩ (.int .i64 fa)) (w5.heap.size+1) [.string ⟨#[]⟩] 88 from((but_two w9 w5.heap.size (.string fc) (.int .i64 fa)).block _ Z9.out.lt (by simp)).trans Z9.out)
   have HW10:=Lib.hid (h9.side [w5.heap.size] (fun g hg=>by
    simp only [List.mem_singleton] at hg
    subst hg
    exact⟨hexy,HOy.out,by omega⟩) (but_two w9 w5.heap.size (.string fc) (.int .i64 fa)))
   have HF10:=Lib.hid ((((HFR5.out.trans (WFr.of_and [w5.heap.size,w5.heap.size+1] (by omega) (HB6.out.trans (HB8.out.mono (by omega))))).trans hfr9)).store (but_two w9 w5.heap.size (.string fc) (.int .i64 fa)) (by intro g hg;simp at hg;omega) hBle)
   have HLE3:=Lib.hid (HLe.out.trans hle3)
   have HWK3:=Lib.hid (HGK.out.trans hwk9)
   have HEN3:=Lib.hid (fun y m hym=> (hen9 y m hym).trans (HGE.out y m))
   obtain⟨q3,hq3,hg3,hm3,hn3,hf3⟩:=hwk9.pl _ q HQ1.out
   have hf3n:q3.f n=none:=by
    have:=hen9 s.data.toList n (.inr ha)
    unfold entf at this
    rw [hq3,HQ1.out] at this
    exact this.trans HQF.out
   have hqn3:1≤n∧n≤(q3.n:Int)∧q3.n≤1024:=by rw [hn3,HLN.out];exact⟨hn1,hn2,hplen⟩
   have HQ3:=Lib.hid hq3
   have HF3:=Lib.hid hf3n
   have HON:=Lib.hid hon
   have hz10:((w9.setCell ⟨w5.heap.size,0,none⟩ (.string fc)).setCell ⟨w5.heap.size,1,none⟩ (.int .i64 fa)).heap.size=w9.heap.size:=by simp
   clear h9 hfr9 hwk9 hen9 hon hle3 hf3 hf3n hq3 x80 x81 x82 x83 x84 HHC HCC
   refine go_on ?_
   cases o with
   |none=>
    unfold errO
    obtain⟨k3,hk3,hK3⟩:=HW10.out
    have HSo:=Lib.hid (solve_any (hK3.ea _ q3 HQ3.out) n ⟨hqn3.1,hqn3.2.1⟩ hqn3.2.2 (by omega) HF3.out ⟨fc,fa⟩)
    have HFIN:=Lib.hid (fun w12 hE hb=>res_fin (W:=W) (A:=A) (w12:=w12) hK3 hk3 HLE3.out HF10.out HWK3.out HQ3.out HF3.out ⟨1,⟨#[]⟩,⟨fc,fa⟩⟩ (.inl ⟨rfl,rfl⟩) hE hb HEN3.out)
    rw [hg3] at HSo HFIN
    clear hK3 hg3 hm3 hn3
    go_wp2_with (go_at_call 30;refine(as_nil _ _).mono ?_;rintro e w10 ⟨rfl,rfl⟩;refine stop_here ?_)
    generalize (w9.setCell ⟨w5.heap.size,0,none⟩ (.string fc)).setCell ⟨w5.heap.size,1,none⟩ (.int .i64 fa)=w10 at*
    have u0:=Y10.out.cell 0 rfl
    have u1:=Y10.out.cell 1 rfl
    refine go_on ?_
    go_wp2_with (go_at_call 32;refine HSo.out.mono ?_;rintro e w12 ⟨rfl,hE,hb⟩;have HFI:=Lib.hid (HFIN.out w12 hE hb);clear hE hb)
    go_ret2
    exact HFI.out
   |some r=>
    unfold errO
    obtain⟨k3,hk3,hK3⟩:=HW10.out
    have HAs:=Lib.hid (aw_any r rfl (w5.heap.size+1) (.string ⟨#[]⟩) _ hK3.gl (Z10.out.cell 0 rfl) (Z10.out.frozen 0))
    have HLate:=Lib.hid (fun Wm (hb:Below w9.heap.size ((w9.setCell ⟨w5.heap.size,0,none⟩ (.string fc)).setCell ⟨w5.heap.size,1,none⟩ (.int .i64 fa)) Wm)=> (show WdK B p L3 v3 x3 k3 (k3*1048576) (T+1+D) (Wm.setCell ⟨w5.heap.size+1,0,none⟩ (.string r))∧WFr B p L v x W L3 v3 x3 (Wm.setCell ⟨w5.heap.size+1,0,none⟩ (.string r))∧Bx (Wm.setCell ⟨w5.heap.size+1,0,none⟩ (.string r)) (w5.heap.size+1) [.string r] 88 from
     ⟨(hK3.below (by rw [hz10];exact hb)).side [w5.heap.size+1] (fun g hg=>by
      simp only [List.mem_singleton] at hg
      subst hg
      exact⟨hexz,HOz.out,by omega⟩) ((But.refl _ _ _).set ⟨w5.heap.size+1,0,none⟩ (.inl (by simp)) _),((HF10.out.store ((But.of_below (S:= []) (by rw [hz10];exact hb))) (by simp) hBle).store ((But.refl _ [w5.heap.size+1] _).set ⟨w5.heap.size+1,0,none⟩ (.inl (by simp)) _) (by intro g hg;simp at hg;omega) hBle),(Z10.out.below hb (by omega)).set 0 (.string r)⟩))
    clear hK3
    go_wp2_with (go_at_call 30;refine HAs.out.mono ?_;rintro e w10 ⟨rfl,Wm,hbm,rfl⟩;refine stop_here ?_)
    obtain⟨hK11,hF11,hX11⟩:=HLate.out Wm (by rw [hz10] at hbm;exact hbm)
    generalize Wm.setCell ⟨w5.heap.size+1,0,none⟩ (.string r)=w11 at*
    have HFa:=Lib.hid (fail_any (hK11.ea _ q3 HQ3.out) n ⟨hqn3.1,hqn3.2.1⟩ hqn3.2.2 (by omega) HF3.out r (HON.out r rfl))
    have HFIN:=Lib.hid (fun w12 hE hb=>res_fin (W:=W) (A:=A) (w12:=w12) hK11 hk3 HLE3.out hF11 HWK3.out HQ3.out HF3.out ⟨2,r,fnd0⟩ (.inr ⟨rfl,HON.out r rfl⟩) hE hb HEN3.out)
    rw [hg3] at HFa HFIN
    have HMM:=Lib.hid (show q3.m<w11.heap.size∧w5.heap.size+1≠q3.m from⟨(hK11.ea _ q3 HQ3.out).mlt,fun e=>by have:=HOz.out.2.2 _ q3 HQ3.out;omega⟩)
    have X11:=Lib.hid hX11
    have u0:=hX11.cell 0 rfl
    clear hbm hK11 hF11 hX11 HAs HLate hg3 hm3 hn3
    refine go_on ?_
    go_wp2_with (go_at_call 31;refine HFa.out.mono ?_;rintro e w12 ⟨rfl,hE,hb⟩;have HFI:=Lib.hid (HFIN.out w12 hE hb);have u2:=(hb.cell (p:=⟨w5.heap.size+1,0,none⟩) X11.out.lt (by simp;exact HMM.out.2)).trans u0;clear hE hb u0)
    go_ret2
    exact HFI.out
 ·rw [hqf] at HSt
  have he0:=HEN.out n e0 hqf
  have HE0:=Lib.hid he0
  have hst0:(e0.st !=0)=true:=by rw [bne_iff_ne];exact entOk_st he0
  have HQF:=Lib.hid hqf
  simp only [Option.getD_some] at HSt
  obtain⟨st,er,tg⟩:=e0
  simp only at hst0 HSt
  clear hqf he0
  rcases ht with ht|ht|ht|ht
  all_goals
   subst ht
   go_wp2_with (go_at_call 27;refine HSt.out.mono ?_;rintro e w7 ⟨rfl,hb7⟩;refine stop_here ?_)
   have HB7:=Lib.hid hb7
   clear hb7
   refine go_on ?_
   go_wp2_with fail
  all_goals
   go_ret2
   exact⟨L1.and [w5.heap.size,w5.heap.size+1],v,x1,⟨st,er,tg⟩,rfl,HE0.out,HLe.out,⟨k0,hk1,(H6.out.below (HB7.out.alloc HB7.out.size _)).moreT (by omega)⟩,HFR5.out.trans (WFr.of_and [w5.heap.size,w5.heap.size+1] (by omega) (HB6.out.trans ((HB7.out.alloc HB7.out.size _).mono (by omega)))),HGK.out,by unfold entf;rw [HQ1.out];exact HQF.out,fun y m _=>HGE.out y m⟩
theorem CmP.moreT {B:Nat} {p:WPos} {L:LPos} {v:Value} {x:WSt} {T T':Nat} {s:List UInt8} {A:Int→Prop} {W:World} {e:Ending} {w':World} (h:CmP B p L v x T s A W e w') (hT:T≤T'):CmP B p L v x T' s A W e w':=by
 obtain⟨L',v',x',f,o,h1,h2,h3,h4,h5⟩:=h
 exact⟨L',v',x',f,o,h1,h2,h3,h4.moreT hT,h5⟩
theorem resolve_cls {B:Nat} {p:WPos} {L:LPos} {v:Value} {x:WSt} {T:Nat} {W:World} (h:WdAt B p L v x T W) (s:ByteArray) (hs:s.size≤1048576) (n:Int) (ko:Ko) (hc:constAt x.σ.F s.data.toList n=some ko) (ht:ko.tag=7) (hT:T<1000000):
  Calls Tryz.prog 9 #[.pointer (some ⟨p.wb,0,none⟩), .string s, .int .i64 n] W (ResOk B p L v x (T+2) s.data.toList n (fun _=>False) W):=by
 obtain⟨c,hf,hn1,hn2,hpk,hpl⟩:=constAt_some hc
 have hpo:PoolOk c.pool:=by
  obtain⟨k0,hk0,hK⟩:=h
  exact hK.ok.fok _ c hf
 obtain⟨u,hu⟩:=hpo.cls ko (List.mem_of_getElem? hpk) ht
 refine resolve_ok h s hs n ko hc (.inl ht) (fun _=>False) id hT 0 (by omega) fun W' L1 v1 x1 T1 h1 hx hT1=> ?_
 rw [ht]
 exact wclass_any h1 s hs (by rw [hx];exact hf) ko hu _
def FndOk (ts:List TyV) (sel:TyV→List MemV) (f:FndV):Prop:=f.cls.size≤1048576∧ ∃(k:Nat) (t:TyV) (i:Nat),atOf (tns ts) f.cls.toList=k∧ts[k]?=some t∧f.at_=i∧i< (sel t).length
def MthP (ts:List TyV) (w:World) (e:Ending) (w':World):Prop:=Below w.heap.size w w'∧ ∃f acc b,e= .returned (.tuple #[.agg #[.string f.cls, .int .i64 f.at_], .int .i64 acc, .bool b])∧(b=true→FndOk ts TyV.ml f)
theorem results_ctt2 {P:Program} {fn:Func} {tmps:Array Value} {a b c:Tmp} {T:TypeId} {g:Nat} {vs:List Value} {t:TypeId} {w:World} {d:TypeDesc} {x y:Value} (hr:fn.results= #[.cell a T, .tmp b, .tmp c]) (ha:tmps.getD a undef= .pointer (some ⟨g,0,none⟩)) (hx:tmps.getD b undef=x) (hy:tmps.getD c undef=y) (hb:Bx w g vs t)
  (hu:P.underlying T=some d) (hd:(match d with| .struct _| .array _ _=>true|_=>false)=true) (hi:(P.info? T).map (·.size)=some vs.length):(results fn tmps).run P w= .ok (.tuple #[.agg vs.toArray,x,y]) w:=by
 have:=run_loadVar_row (P:=P) w g t T vs.toArray (0,0) d hb hu hd (by simpa using hi)
 unfold results
 rw [hr]
 rw [Array.getD_eq_getD_getElem?] at ha hx hy
 simp [ha,hx,hy,asAddr,this,Result.andThen]
theorem fmethod_any {g cap:Nat} {ts:List TyV} {w:World} (h:TabAt w g cap ts) (s:ByteArray) (hs:s.size≤1048576) (r:RefV):
  Calls Tryz.prog 99 #[tabV g cap ts, .string s, .agg #[.string r.cls, .string r.name, .string r.desc]] w (MthP ts w):=by
 obtain⟨rc,rn,rd⟩:=r
 have HB1:=Lib.hid ((Below.refl w.heap.size w).alloc (Nat.le_refl _) (.cells #[.string rc, .string rn, .string rd] 144))
 have HB2:=Lib.hid (HB1.out.alloc HB1.out.size (.cells #[.string ⟨#[]⟩, .int .i64 0] 37))
 have X1:=Lib.hid ((bx_new w [.string rc, .string rn, .string rd] 144).below ((Below.refl _ (w.alloc (.cells #[.string rc, .string rn, .string rd] 144))).alloc (Nat.le_refl _) (.cells #[.string ⟨#[]⟩, .int .i64 0] 37)) (by simp))
 have X2:=Lib.hid (bx_new (w.alloc (.cells #[.string rc, .string rn, .string rd] 144)) [.string ⟨#[]⟩, .int .i64 0] 37)
 have HT:=Lib.hid (h.below HB2.out)
 have hle:=h.le
 have hcap:=h.cap
 have hg:=h.lt
 have hrd:=h.rd
 clear h
 unfold tabV
 go_enter Tryz.func99,Tryz.ntmps99
 go_wp2_with (go_at_call 45;refine(tab_at HT.out _).mono ?_;rintro e w1 ⟨rfl,rfl⟩;refine stop_here ?_)
 have hz2:((w.alloc (.cells #[.string rc, .string rn, .string rd] 144)).alloc (.cells #[.string ⟨#[]⟩, .int .i64 0] 37)).heap.size=w.heap.size+1+1:=by simp
 have hz1:(w.alloc (.cells #[.string rc, .string rn, .string rd] 144)).heap.size=w.heap.size+1:=by simp
 rw [hz1] at X2
 generalize (w.alloc (.cells #[.string rc, .string rn, .string rd] 144)).alloc (.cells #[.string ⟨#[]⟩, .int .i64 0] 37)=w2 at*
 refine go_on ?_
 have X1a:=X1.out.cell 0 rfl
 have X1b:=X1.out.cell 1 rfl
 have X1c:=X1.out.cell 2 rfl
 have X2a:=X2.out.cell 0 rfl
 have X2b:=X2.out.cell 1 rfl
 have X2f:=X2.out.frozen 0
 have X2g:=X2.out.frozen 1
 rcases atOf_cases ts s.toList with⟨ha,hno⟩ | ⟨k,t,ha,hk,hn⟩
 ·rw [ha]
  clear ha hno hrd
  go_wp2_with fail
  refine bodyPost_ret (results_ctt2 rfl rfl rfl rfl (bx_two X2.out _ _) Tryz.underlying37 rfl rfl) rfl ⟨below_two HB2.out (by omega) _ _,fnd0,0,false,rfl,fun h=>by cases h⟩
 ·have hlt:=(List.getElem?_eq_some_iff.1 hk).1
  rw [ha]
  have HK:=Lib.hid hk
  have HA:=Lib.hid ha
  have HN:=Lib.hid hn
  have c5:=HT.out.c5 hk
  obtain⟨_,_,hml⟩:=HT.out.rd t (List.mem_of_getElem? hk)
  obtain⟨A,cp,hmv,hcp,hmx⟩:=sl_len hml
  rw [hmv] at c5 hml
  obtain⟨_,_,hmw⟩:=hrd t (List.mem_of_getElem? hk)
  rw [hmv] at hmw
  have HMW:=Lib.hid hmw
  have HIN:=Lib.hid (fun W (hb:Below w2.heap.size w2 W)=>in_any _ t.ml ⟨rc,rn,rd⟩ W (hml.keep (kept_any hb)))
  clear ha hn hk hml hmv hmw hrd
  unfold RefV.cells at HIN
  go_wp2_with fail
  refine wp_region_head 6 (by kernel_rfl) (by kernel_rfl) ?_
  simp only [List.take_succ_cons,List.take_zero,List.drop_succ_cons,List.drop_zero]
  repeat go_big_quiet_step (fail)
  refine wpQuiet_nil ?_
  have HBd:=Lib.hid (below_drewN (Below.refl w2.heap.size w2) 1)
  go_wp2_with (go_at_call 77;refine(HIN.out _ HBd.out).mono ?_;rintro e w3 ⟨⟨i,rfl,hi,hi1⟩,hb3⟩;refine stop_here ?_)
  have HBw:=Lib.hid (HBd.out.trans (hb3.mono HBd.out.size))
  refine go_on ?_
  have X2':=Lib.hid (X2.out.below HBw.out (by omega))
  have HB3:=Lib.hid (HB2.out.trans (HBw.out.mono (by omega)))
  have c5':=(HBw.out.cell (p:=⟨g,k*6+5,none⟩) (show g<w2.heap.size by omega)).trans c5
  have X2a':=X2'.out.cell 0 rfl
  have X2b':=X2'.out.cell 1 rfl
  have X2f':=X2'.out.frozen 0
  have X2g':=X2'.out.frozen 1
  have hz3:=HBw.out.size
  clear hb3 X2a X2b X2f X2g X1a X1b X1c c5
  by_cases hi0:i<0
  ·go_wp2_with fail
   refine bodyPost_ret (results_ctt2 rfl rfl rfl rfl (bx_two X2'.out _ _) Tryz.underlying37 rfl rfl) rfl ⟨below_two HB3.out (by omega) _ _,fnd0,0,false,rfl,fun h=>by cases h⟩
  ·obtain⟨n,rfl⟩: ∃n:Nat,i=n:=⟨i.toNat,by omega⟩
   obtain⟨x,hx⟩: ∃x,t.ml[n]?=some x:=⟨_,List.getElem?_eq_getElem (by omega)⟩
   obtain⟨b,o,rfl,g1,a0w,_,_,_,_⟩:=mrow_cells HMW.out n x hx
   have a0:=(HB3.out.cell (p:=⟨b,o+n*5,none⟩) g1).trans a0w
   have hnl:n<t.ml.length:=by omega
   clear hx a0w
   go_wp2_with fail
   go_region_law (fail)
   all_goals
    go_wp2_with fail
    refine bodyPost_ret (results_ctt2 rfl rfl rfl rfl (bx_drew (bx_two X2'.out _ _)) Tryz.underlying37 rfl rfl) rfl ⟨(below_two HB3.out (by omega) _ _).drew,⟨s,n⟩,x.acc,true,rfl,fun _=> ⟨hs,k,t,n,HA.out,HK.out,rfl,hnl⟩⟩
def fndC (fs:List FndV):List Value:=fs.flatMap FndV.cells
theorem fndC_snoc (fs:List FndV) (f:FndV):fndC (fs++ [f])=fndC fs++ [.string f.cls, .int .i64 f.at_]:=by simp [fndC,FndV.cells]
theorem info_found:(Tryz.prog.info? 37).map (fun i=> (i.zero,i.size,i.bytes))=some (some (.agg #[.string ⟨#[]⟩, .int .i64 0]),2,24):=by kernel_rfl
structure FRow (ts:List TyV) (w w':World) (v:Value) (fs:List FndV):Prop where
 sl:SlAt w' (fun g=>w.heap.size≤g) 2 fs.length (fndC fs) v
 bel:Below w.heap.size w w'
 ok: ∀f∈fs,FndOk ts TyV.ml f
 le:fs.length≤1000
theorem fRow_of {ts:List TyV} {w w':World} {B:Nat} {v:Value} {fs:List FndV} (h:w'.ownsRow B 37 2 v fs.length (fndC fs)) (hB:w.heap.size≤B) (hb:Below w.heap.size w w') (ho: ∀f∈fs,FndOk ts TyV.ml f) (hl:fs.length≤1000):FRow ts w w' v fs:=
 ⟨slAt_own h _ (by omega) (by omega) fun g hg=>Nat.le_trans hB (h.lt g hg).1,hb,ho,hl⟩
theorem FRow.below {ts:List TyV} {w w' w2:World} {v:Value} {fs:List FndV} (h:FRow ts w w' v fs) (hb:Below w'.heap.size w' w2):FRow ts w w2 v fs:=⟨h.sl.keep (Kept.of_below hb),h.bel.trans (hb.mono h.bel.size),h.ok,h.le⟩
theorem fnd_cells {w:World} {ok:Nat→Prop} {fs:List FndV} {A:Option Addr} {cap:Nat} (h:SlAt w ok 2 fs.length (fndC fs) (.slice A fs.length cap)) (k:Nat) (x:FndV) (hk:fs[k]?=some x): ∃b off,A=some ⟨b,off,none⟩∧b<w.heap.size∧ok b∧
  w.cell? ⟨b,off+k*2,none⟩=some (.string x.cls)∧w.cell? ⟨b,off+k*2+1,none⟩=some (.int .i64 x.at_):=by
 obtain⟨A',cap',e,_,_,_,h5⟩:=h
 cases e
 obtain⟨b,off,e,hlt,hok,hc⟩:=h5 (by have:=(List.getElem?_eq_some_iff.1 hk).1;omega)
 have hr:=rows_at FndV.cells 2 (fun _=>rfl) fs k x hk
 exact⟨b,off,e,hlt,hok,hc _ _ ((hr 0 (by omega)).trans rfl),hc _ _ ((hr 1 (by omega)).trans rfl)⟩
theorem declared_any {g cap:Nat} {ts:List TyV} {w:World} (h:TabAt w g cap ts) (cs:List (List UInt8)) (A:Option Addr) (q:Nat) (hcs:SlAt w anyB 1 cs.length (strC cs) (.slice A cs.length q)) (hl:cs.length≤1000) (hsm: ∀s∈cs,s.length≤1048576) (r:RefV):
  Calls Tryz.prog 101 #[tabV g cap ts, .slice A cs.length q, .agg #[.string r.cls, .string r.name, .string r.desc]] w fun e w'=> ∃v fs,e= .returned v∧FRow ts w w' v fs:=by
 have HM:=Lib.hid (fun W (hb:Below w.heap.size w W) s hs=>fmethod_any (h.below hb) s hs r)
 obtain⟨rc,rn,rd⟩:=r
 have HB1:=Lib.hid ((Below.refl w.heap.size w).alloc (Nat.le_refl _) (.cells #[.string rc, .string rn, .string rd] 144))
 have X1:=Lib.hid (bx_new w [.string rc, .string rn, .string rd] 144)
 have HC:=Lib.hid hcs
 have HS:=Lib.hid hsm
 obtain⟨_,_,e,hq,_⟩:=sl_len hcs
 cases e
 have hle:=h.le
 have hcap:=h.cap
 have hg:=h.lt
 clear h hcs hsm
 unfold tabV at HM⊢
 go_enter Tryz.func101,Tryz.ntmps101
 go_wp2_with fail
 have hz1:(w.alloc (.cells #[.string rc, .string rn, .string rd] 144)).heap.size=w.heap.size+1:=by simp
 generalize w.alloc (.cells #[.string rc, .string rn, .string rd] 144)=w1 at*
 go_loopw [7,15] (fun ov kv wr=> ∃(k:Nat) (fs:List FndV),kv= .int .i64 k∧k≤cs.length∧fs.length≤k∧Hid (wr.ownsRow (w.heap.size+1) 37 2 ov fs.length (fndC fs))∧Hid (∀f∈fs,FndOk ts TyV.ml f)∧Hid (Below w.heap.size w wr)∧Hid (Bx wr w.heap.size [.string rc, .string rn, .string rd] 144)) (fun _ kv wr=>cs.length - (RowKit.intOf kv).toNat)
 case atStart=>exact⟨0, [],rfl,by omega,by simp,Lib.hid (World.ownsRow_nil _ _ _ _),Lib.hid (by simp),HB1,X1⟩
 case round=>
  obtain⟨k,fs,rfl,hk,hfl,HO,HF,HB,HX⟩:=hrel
  have hzr:=HB.out.size
  by_cases hlt:k<cs.length
  ·obtain⟨s,hs⟩: ∃s,cs[k]?=some s:=⟨_,List.getElem?_eq_getElem hlt⟩
   obtain⟨b,o,rfl,g1,a0⟩:=srow_cells (HC.out.keep (kept_any HB.out)) k s hs
   have hss:=HS.out s (List.mem_of_getElem? hs)
   have HMr:=Lib.hid (HM.out wr HB.out ⟨s.toArray⟩ (by simpa [ByteArray.size] using hss))
   have x0:=HX.out.cell 0 rfl
   have x1:=HX.out.cell 1 rfl
   have x2:=HX.out.cell 2 rfl
   clear hs
   go_wp2_with (go_at_call 99;refine HMr.out.mono ?_;rintro e w5 ⟨hb5,f,acc,bb,rfl,hf⟩;refine stop_here ?_)
   obtain⟨fc,fa⟩:=f
   have HF5:=Lib.hid hf
   have HBw:=Lib.hid (hb5.alloc hb5.size (.cells #[.string fc, .int .i64 fa] 37))
   have HX5:=Lib.hid (HX.out.below HBw.out HX.out.lt)
   have HO5:=Lib.hid (own_heap HO.out fun q hq=>HBw.out.block q (HO.out.lt q hq).2)
   have HB5:=Lib.hid (HB.out.trans (HBw.out.mono hzr))
   have Y5:=Lib.hid (bx_new w5 [.string fc, .int .i64 fa] 37)
   have hz5:=hb5.size
   clear hb5 hf HMr x0 x1 x2
   refine go_on ?_
   cases bb
   ·go_wp2_with fail
    go_roundw
    case rel=>exact⟨k+1,fs,by go_num,by omega,by omega,HO5,HF,HB5,HX5⟩
    case measure=>simp [RowKit.intOf];omega
   ·go_wp2_with (at_builtin;refine stop_here ?_)
    ·refine go_on ?_
     refine wpl_append rfl _ _ 34 rfl Tryz.underlying34 info_found rfl (by omega) (w.heap.size+1) rfl (HO5.out.alloc _) rfl rfl (cells_new_at _ _ _ _ (by first|rfl|omega| (simp<;>omega))) (by simp [Value.oneCell']) (by simp only [maxLen];omega) (by omega) (by first|rfl|omega| (simp<;>omega)) ?_
     intro v' w6 ho hg6 hb6
     have HBa:=(Below.refl (w5.alloc (.cells #[.string fc, .int .i64 fa] 37)).heap.size (w5.alloc (.cells #[.string fc, .int .i64 fa] 37))).alloc (Nat.le_refl _) (.cells #[.string fc, .int .i64 fa] 37)
     have HB6:=Lib.hid (HB5.out.trans ((HBa.mono HB5.out.size).trans (hb6.mono (Nat.le_succ _))))
     have HX6:=Lib.hid ((HX5.out.below HBa HX5.out.lt).below hb6 (by omega))
     have HO6:=Lib.hid (own_eq ho (m:=(fs++ [(⟨fc,fa⟩:FndV)]).length) (by simp) (ys:=fndC (fs++ [⟨fc,fa⟩])) (by rw [fndC_snoc]))
     have HF6:=Lib.hid (show∀f∈fs++ [(⟨fc,fa⟩:FndV)],FndOk ts TyV.ml f from fun f hf=>by
      rcases List.mem_append.1 hf with hf|hf
      ·exact HF.out f hf
      ·simp at hf
       subst hf
       exact HF5.out trivial)
     clear ho hg6 hb6 HBa
     go_wp2_with fail
     go_roundw
     case rel=>exact⟨k+1,fs++ [⟨fc,fa⟩],by go_num,by omega,by simp;omega,HO6,HF6,HB6,HX6⟩
     case measure=>simp [RowKit.intOf];omega
    ·go_roundw
     case rel=>exact⟨k+1,fs,by go_num,by omega,by omega,HO5,HF,HB5,HX5⟩
     case measure=>simp [RowKit.intOf];omega
  ·obtain rfl:k=cs.length:=by omega
   go_wp2_with fail
   go_ret
   exact⟨_,fs,rfl,fRow_of HO.out (by omega) HB.out HF.out (by omega)⟩
end Go.Proofs.YtpbnjakeielipaaGreatDoor
