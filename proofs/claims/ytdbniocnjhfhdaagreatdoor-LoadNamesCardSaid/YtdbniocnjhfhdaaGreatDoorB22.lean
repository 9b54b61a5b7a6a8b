/-
  What the loader's laws rest on, part 22: walks of the program's functions and plain laws. Conditions: none but those that each theorem names.
-/
import Derived.Test.YtdbniocnjhfhdaaGreatDoorB20
import Derived.LaidEql
import Derived.Stop.Asserts
import Derived.RowKitTokens
import Derived.Test.YtdbniocnjhfhdaaGreatDoorB21
import Derived.Test.YtdbniocnjhfhdaaGreatDoorB16
import Derived.Test.YtdbniocnjhfhdaaGreatDoorB00
import Derived.Laws.RangeAny
/-
  errors.As at a chain of the loader's errors, at a concrete target: a variable of the loader's failure.
-/
set_option linter.unusedSimpArgs false
set_option linter.unusedVariables false
set_option maxRecDepth 100000
set_option maxHeartbeats 4000000
namespace Go.Proofs.YtdbniocnjhfhdaaGreatDoor
open Go Go.RowKit Lib Go.Extern.Stop Go.Stop Go.Extern
theorem As.valueOf71 (t : Addr) (w : World) : (ReflectliteValue.unpack (.iface 71 (.pointer (some t)))).run Tryz.prog w
    = .ok (.agg #[.pointer (some ⟨2, 71, none⟩), .pointer (some ⟨w.heap.size, 0, none⟩), .int .u64 150]) (w.alloc (.cells #[.pointer (some t)] 71)) := by kernel_rfl
theorem As.type71 (a : Addr) (w : World) : (ReflectliteValue.methodAny (ReflectliteValue.valueError "reflectlite.Value.Type" 0) (fun t _ _ _ => ReflectliteType.toType t) #[.agg #[.pointer (some ⟨2, 71, none⟩), .pointer (some a), .int .u64 150]]).run Tryz.prog w
    = .ok (.iface 132 (.agg #[.pointer (some ⟨2, 71, none⟩)])) w := by kernel_rfl
theorem As.kind71 (w : World) : ((ReflectliteType.abiMethod fun t => (fun a : Nat => Value.int IntKind.u8 (a : Int)) <$> Rtype.kind t) #[.pointer (some ⟨2, 71, none⟩)]).run Tryz.prog w = .ok (.int .u8 22) w := by kernel_rfl
theorem As.kind66 (w : World) : ((ReflectliteType.abiMethod fun t => (fun a : Nat => Value.int IntKind.u8 (a : Int)) <$> Rtype.kind t) #[.pointer (some ⟨2, 66, none⟩)]).run Tryz.prog w = .ok (.int .u8 24) w := by kernel_rfl
theorem As.elem71 (w : World) : (ReflectliteType.method ReflectliteType.elem #[.agg #[.pointer (some ⟨2, 71, none⟩)]]).run Tryz.prog w = .ok (.iface 132 (.agg #[.pointer (some ⟨2, 66, none⟩)])) w := by kernel_rfl
theorem As.implements66 (w : World) : (ReflectliteType.relation "Implements" ReflectliteType.implements_ #[.agg #[.pointer (some ⟨2, 66, none⟩)], .iface 132 (.agg #[.pointer (some ⟨2, 69, none⟩)])]).run Tryz.prog w = .ok (.bool true) w := by kernel_rfl
theorem As.typeOf66 (v : Value) (w : World) : (ReflectliteType.typeOf #[.iface 66 v]).run Tryz.prog w = .ok (.iface 132 (.agg #[.pointer (some ⟨2, 66, none⟩)])) w := by kernel_rfl
theorem As.typeOf150 (v : Value) (w : World) : (ReflectliteType.typeOf #[.iface 150 v]).run Tryz.prog w = .ok (.iface 132 (.agg #[.pointer (some ⟨2, 150, none⟩)])) w := by kernel_rfl
theorem As.assignable66 (w : World) : (ReflectliteType.relation "AssignableTo" ReflectliteType.assignableTo #[.agg #[.pointer (some ⟨2, 66, none⟩)], .iface 132 (.agg #[.pointer (some ⟨2, 66, none⟩)])]).run Tryz.prog w = .ok (.bool true) w := by kernel_rfl
theorem As.assignable150 (w : World) : (ReflectliteType.relation "AssignableTo" ReflectliteType.assignableTo #[.agg #[.pointer (some ⟨2, 150, none⟩)], .iface 132 (.agg #[.pointer (some ⟨2, 66, none⟩)])]).run Tryz.prog w = .ok (.bool false) w := by kernel_rfl
theorem As.valueOf66 (s : ByteArray) (w : World) : (ReflectliteValue.unpack (.iface 66 (.string s))).run Tryz.prog w
    = .ok (.agg #[.pointer (some ⟨2, 66, none⟩), .pointer (some ⟨w.heap.size, 0, none⟩), .int .u64 152]) (w.alloc (.cells #[.string s] 66)) := by kernel_rfl
theorem As.parts71 (a : Addr) (w : World) : (ReflectliteValue.parts (.agg #[.pointer (some ⟨2, 71, none⟩), .pointer (some a), .int .u64 150])).run Tryz.prog w = .ok (some (71, a, 150)) w := by kernel_rfl
theorem As.parts66 (a : Addr) (w : World) : (ReflectliteValue.parts (.agg #[.pointer (some ⟨2, 66, none⟩), .pointer (some a), .int .u64 152])).run Tryz.prog w = .ok (some (66, a, 152)) w := by kernel_rfl
theorem As.parts66a (a : Addr) (w : World) : (ReflectliteValue.parts (.agg #[.pointer (some ⟨2, 66, none⟩), .pointer (some a), .int .u64 408])).run Tryz.prog w = .ok (some (66, a, 408)) w := by kernel_rfl
theorem As.elemOf71 (w : World) : (Rtype.elem? 71).run Tryz.prog w = .ok (some 66) w := by kernel_rfl
theorem As.mk66 (p : Addr) (w : World) : (ReflectliteValue.mk 66 p ReflectliteValue.flagAddr).run Tryz.prog w = .ok (.agg #[.pointer (some ⟨2, 66, none⟩), .pointer (some p), .int .u64 408]) w := by kernel_rfl
theorem As.direct66 (w : World) : (Rtype.directlyAssignable 66 66).run Tryz.prog w = .ok true w := by kernel_rfl
theorem As.as137 (v : Value) (w : World) : (Instr.typeAssert (.iface 150 v) 69 137 true).run Tryz.prog w = .ok (.tuple #[.nilIface, .bool false]) w := run_typeAssert_lacksB Tryz.underlying137 (by kernel_rfl) (by kernel_rfl) v 69 w
theorem As.as140 (v : Value) (w : World) : (Instr.typeAssert (.iface 150 v) 69 140 true).run Tryz.prog w = .ok (.tuple #[.iface 150 v, .bool true]) w := by kernel_rfl
theorem As.rlm (z : Sem Value) (f : TypeId → Addr → Nat → Nat → Sem Value) (v : Value) :
    ReflectliteValue.method z f #[v] = (do match ← ReflectliteValue.parts v with | none => z | some (t, a, fl) => f t a fl (fl % 32)) := rfl
theorem As.isNil71 (a p : Addr) (W : World) (ha : W.cell? a = some (.pointer (some p))) :
    (ReflectliteValue.method (ReflectliteValue.valueError "reflectlite.Value.IsNil" 0) ReflectliteValue.isNil #[.agg #[.pointer (some ⟨2, 71, none⟩), .pointer (some a), .int .u64 150]]).run Tryz.prog W = .ok (.bool false) W := by
  rw [As.rlm]
  simp only [Sem.run_bind, As.parts71, Result.andThen]
  simp [ReflectliteValue.isNil, loadVar, isAgg, underlying, Tryz.underlying71, ha, Result.andThen]
theorem As.elemV71 (a p : Addr) (W : World) (ha : W.cell? a = some (.pointer (some p))) :
    (ReflectliteValue.method (ReflectliteValue.valueError "reflectlite.Value.Elem" 0) ReflectliteValue.elem #[.agg #[.pointer (some ⟨2, 71, none⟩), .pointer (some a), .int .u64 150]]).run Tryz.prog W
      = .ok (.agg #[.pointer (some ⟨2, 66, none⟩), .pointer (some p), .int .u64 408]) W := by
  rw [As.rlm]
  simp only [Sem.run_bind, As.parts71, Result.andThen]
  simp [ReflectliteValue.elem, loadVar, isAgg, underlying, Tryz.underlying71, ha, Result.andThen, As.elemOf71, As.mk66]
theorem As.rls (v x : Value) : ReflectliteValue.set #[v, x] = (do
    let (some (dst, a, fl), some (src, b, _)) := (← ReflectliteValue.parts v, ← ReflectliteValue.parts x)
      | unsupported (.noEntry "extern/(internal/reflectlite.Value).Set.zeroValue")
    if fl / ReflectliteValue.flagAddr % 2 == 0 then unsupported (.noEntry "extern/(internal/reflectlite.Value).Set.unaddressable")
    let val ← loadVar src b
    if ← Rtype.directlyAssignable dst src then storeVar dst a val
    else if ← Rtype.implements dst src then
      if (← Rtype.kind src) == 20 then
        match val with
        | .nilIface => unsupported (.noEntry "extern/reflectlite: a nil value of one interface type handed on as a value of another")
        | _ => storeVar dst a val
      else storeVar dst a (.iface src val)
    else panicString ("reflectlite.Set: value of type " ++ (← Rtype.spelt src) ++ " is not assignable to type " ++ (← Rtype.spelt dst))
    pure (.tuple #[])) := rfl
theorem As.set66 (ta b : Addr) (s : ByteArray) (old : Value) (W : World) (hb : W.cell? b = some (.string s)) (ht : W.cell? ta = some old) (hf : W.frozen? ta = false) :
    (ReflectliteValue.set #[.agg #[.pointer (some ⟨2, 66, none⟩), .pointer (some ta), .int .u64 408], .agg #[.pointer (some ⟨2, 66, none⟩), .pointer (some b), .int .u64 152]]).run Tryz.prog W
      = .ok (.tuple #[]) (W.setCell ta (.string s)) := by
  rw [As.rls]
  simp only [Sem.run_bind, As.parts66a, As.parts66, Result.andThen]
  simp [ReflectliteValue.flagAddr, loadVar, isAgg, underlying, Tryz.underlying66, hb, Result.andThen, As.direct66, storeVar, Value.cells, storeCells, Addr.add]
  rw [run_store Tryz.prog W ta _ _ (by rfl)]
  simp [ht, hf]
theorem as_nil (t : Value) (w : World) : Calls Tryz.prog 26 #[.nilIface, t] w fun e w' => e = .returned (.bool false) ∧ w' = w := by
  go_enter Tryz.func26, Tryz.ntmps26
  go_wp2
  go_ret
  exact ⟨rfl, rfl⟩
end Go.Proofs.YtdbniocnjhfhdaaGreatDoor
/-
  errors.As at a chain of the loader's errors: walked.
-/
set_option linter.unusedSimpArgs false
set_option linter.unusedVariables false
set_option maxRecDepth 100000
set_option maxHeartbeats 4000000
namespace Go.Proofs.YtdbniocnjhfhdaaGreatDoor
open Go Go.RowKit Lib Go.Extern.Stop Go.Stop Go.Extern
theorem As.methodKind (h : Value) (w : World) : (Go.method 361 132 (.agg #[h]) "Kind").run Tryz.prog w = .ok (192, h) w := by kernel_rfl
theorem As.methodElem (h : Value) (w : World) : (Go.method 361 132 (.agg #[h]) "Elem").run Tryz.prog w = .ok (202, .agg #[h]) w := by kernel_rfl
theorem As.methodImplements (h : Value) (w : World) : (Go.method 361 132 (.agg #[h]) "Implements").run Tryz.prog w = .ok (203, .agg #[h]) w := by kernel_rfl
theorem As.methodAssignableTo (h : Value) (w : World) : (Go.method 361 132 (.agg #[h]) "AssignableTo").run Tryz.prog w = .ok (200, .agg #[h]) w := by kernel_rfl
theorem As.methodUnwrap (f v : Value) (w : World) : (Go.method 361 150 (.agg #[f, v]) "Unwrap").run Tryz.prog w = .ok (211, .agg #[f, v]) w := by kernel_rfl
theorem unwrap_any (f : ByteArray) (T : TypeId) (y : Value) (w : World) : Calls Tryz.prog 211 #[.agg #[.string f, .iface T y]] w fun e w' => e = .returned (.iface T y) ∧ Below w.heap.size w w' := by
  go_enter Tryz.func211, Tryz.ntmps211
  go_wp2
  go_ret
  exact ⟨rfl, (Below.refl _ _).alloc (Nat.le_refl _) _⟩
theorem as44 {x : Value} {s : ByteArray} (hx : ErrV x s) (t a : Nat) (old : Value) (W : World) (ha : W.cell? ⟨a, 0, none⟩ = some (.pointer (some ⟨t, 0, none⟩))) (ht : W.cell? ⟨t, 0, none⟩ = some old) (hf : W.frozen? ⟨t, 0, none⟩ = false) :
    Calls Tryz.prog 44 #[x, .iface 71 (.pointer (some ⟨t, 0, none⟩)), .agg #[.pointer (some ⟨2, 71, none⟩), .pointer (some ⟨a, 0, none⟩), .int .u64 150], .iface 132 (.agg #[.pointer (some ⟨2, 66, none⟩)])] W
      fun e W' => e = .returned (.bool true) ∧ ∃ Wm, Below W.heap.size W Wm ∧ W' = Wm.setCell ⟨t, 0, none⟩ (.string (langB s)) := by
  have h41 := @run_callFunc_extern Tryz.prog 41 _ (fun args => ReflectliteValue.unpack (args.getD 0 (.tuple #[]))) Tryz.func41 (by kernel_rfl) (by kernel_rfl) (by kernel_rfl) (by kernel_rfl)
  have h64 := @run_callFunc_extern Tryz.prog 64 _ ReflectliteType.typeOf Tryz.func64 (by kernel_rfl) (by kernel_rfl) (by kernel_rfl) (by kernel_rfl)
  have h200 := @run_callFunc_extern Tryz.prog 200 _ (ReflectliteType.relation "AssignableTo" ReflectliteType.assignableTo) Tryz.func200 (by kernel_rfl) (by kernel_rfl) (by kernel_rfl) (by kernel_rfl)
  have h65 := @run_callFunc_extern Tryz.prog 65 _ (ReflectliteValue.method (ReflectliteValue.valueError "reflectlite.Value.Elem" 0) ReflectliteValue.elem) Tryz.func65 (by kernel_rfl) (by kernel_rfl) (by kernel_rfl) (by kernel_rfl)
  have h66 := @run_callFunc_extern Tryz.prog 66 _ ReflectliteValue.set Tryz.func66 (by kernel_rfl) (by kernel_rfl) (by kernel_rfl) (by kernel_rfl)
  have hal : a < W.heap.size := World.block_lt_of_cell? W ⟨a, 0, none⟩ ha
  have htl : t < W.heap.size := World.block_lt_of_cell? W ⟨t, 0, none⟩ ht
  have X0 := Lib.hid (bx_new W [.pointer (some ⟨2, 71, none⟩), .pointer (some ⟨a, 0, none⟩), .int .u64 150] 100)
  have HX := Lib.hid hx
  have HA := Lib.hid ((World.cell?_alloc_lt W (.cells #[.pointer (some ⟨2, 71, none⟩), .pointer (some ⟨a, 0, none⟩), .int .u64 150] 100) ⟨a, 0, none⟩ hal).trans ha)
  have HT := Lib.hid ((World.cell?_alloc_lt W (.cells #[.pointer (some ⟨2, 71, none⟩), .pointer (some ⟨a, 0, none⟩), .int .u64 150] 100) ⟨t, 0, none⟩ htl).trans ht)
  have HF := Lib.hid ((World.frozen?_alloc_old W (.cells #[.pointer (some ⟨2, 71, none⟩), .pointer (some ⟨a, 0, none⟩), .int .u64 150] 100) ⟨t, 0, none⟩ (Nat.ne_of_lt htl)).trans hf)
  clear hx ha ht hf
  go_enter Tryz.func44, Tryz.ntmps44
  go_wp2_with fail
  go_loopw [0] (fun v0 wr => ∃ x', v0 = x' ∧ Hid (ErrV x' s) ∧ Hid (Below (W.heap.size + 1) (W.alloc (.cells #[.pointer (some ⟨2, 71, none⟩), .pointer (some ⟨a, 0, none⟩), .int .u64 150] 100)) wr)) (fun v0 _ => SizeOf.sizeOf v0)
  case atStart => exact ⟨x, rfl, HX, Lib.hid (Below.refl _ _)⟩
  case round =>
    obtain ⟨x', rfl, HE, HB⟩ := hrel
    have hsz := HB.out.size
    simp only [World.size_alloc] at hsz
    have b0 := (HB.out.cell (p := ⟨W.heap.size, 0, none⟩) (by simp)).trans (X0.out.cell 0 rfl)
    have b1 := (HB.out.cell (p := ⟨W.heap.size, 1, none⟩) (by simp)).trans (X0.out.cell 1 rfl)
    have b2 := (HB.out.cell (p := ⟨W.heap.size, 2, none⟩) (by simp)).trans (X0.out.cell 2 rfl)
    have ca := (HB.out.cell (p := ⟨a, 0, none⟩) (by simp; omega)).trans HA.out
    have ct := (HB.out.cell (p := ⟨t, 0, none⟩) (by simp; omega)).trans HT.out
    have zt := (HB.out.frozen (p := ⟨t, 0, none⟩) (by simp; omega)).trans HF.out
    have mA := As.methodAssignableTo
    have he := HE.out
    cases he with
    | base =>
      unfold failV
      have tO := As.typeOf66
      have a66 := As.assignable66
      have v66 := As.valueOf66 (langB s) wr
      have el := As.elemV71 ⟨a, 0, none⟩ ⟨t, 0, none⟩ wr ca
      have st := As.set66 ⟨t, 0, none⟩ ⟨wr.heap.size, 0, none⟩ (langB s) old (wr.alloc (.cells #[.string (langB s)] 66)) (by rw [World.cell?_alloc_at _ _ _ _ (by simp)]; rfl) (by rw [World.cell?_alloc_lt _ _ _ (by simp; omega)]; exact ct) (by rw [World.frozen?_alloc_old _ _ _ (by simp; omega)]; exact zt)
      have HW := Lib.hid (((Below.refl W.heap.size W).alloc (Nat.le_refl _) (.cells #[.pointer (some ⟨2, 71, none⟩), .pointer (some ⟨a, 0, none⟩), .int .u64 150] 100)).trans ((HB.out.alloc hsz (.cells #[.string (langB s)] 66)).mono (by omega)))
      generalize hL : langB s = L at *
      have HL := Lib.hid hL
      clear hL
      go_wp2
      go_ret
      exact ⟨rfl, _, HW.out, by rw [HL.out]⟩
    | wrap v f _ hv =>
      obtain ⟨T, y, rfl⟩ := hv.iface
      have HV := Lib.hid hv
      have tO := As.typeOf150
      have a150 := As.assignable150
      have q137 := As.as137
      have q140 := As.as140
      have mU := As.methodUnwrap
      clear hv
      go_wp2_with (go_at_call 211; refine (unwrap_any _ _ _ _).mono ?_; rintro e w2 ⟨rfl, hb2⟩; refine stop_here ?_)
      refine go_on ?_
      have HB2 := Lib.hid (HB.out.trans (hb2.mono hsz))
      clear hb2
      go_wp2_with fail
      go_roundw
      case rel => exact ⟨_, rfl, HV, HB2⟩
      case measure => simp; omega
theorem as_any {x : Value} {s : ByteArray} (hx : ErrV x s) (t : Nat) (old : Value) (W : World) (hg : W.cell? ⟨0, 0, none⟩ = some (.iface 132 (.agg #[.pointer (some ⟨2, 69, none⟩)]))) (ht : W.cell? ⟨t, 0, none⟩ = some old) (hf : W.frozen? ⟨t, 0, none⟩ = false) :
    Calls Tryz.prog 26 #[x, .iface 71 (.pointer (some ⟨t, 0, none⟩))] W fun e W' => e = .returned (.bool true) ∧ ∃ Wm, Below W.heap.size W Wm ∧ W' = Wm.setCell ⟨t, 0, none⟩ (.string (langB s)) := by
  obtain ⟨T, y, rfl⟩ := hx.iface
  have h41 := @run_callFunc_extern Tryz.prog 41 _ (fun args => ReflectliteValue.unpack (args.getD 0 (.tuple #[]))) Tryz.func41 (by kernel_rfl) (by kernel_rfl) (by kernel_rfl) (by kernel_rfl)
  have h42 := @run_callFunc_extern Tryz.prog 42 _ (ReflectliteValue.methodAny (ReflectliteValue.valueError "reflectlite.Value.Type" 0) (fun t _ _ _ => ReflectliteType.toType t)) Tryz.func42 (by kernel_rfl) (by kernel_rfl) (by kernel_rfl) (by kernel_rfl)
  have h43 := @run_callFunc_extern Tryz.prog 43 _ (ReflectliteValue.method (ReflectliteValue.valueError "reflectlite.Value.IsNil" 0) ReflectliteValue.isNil) Tryz.func43 (by kernel_rfl) (by kernel_rfl) (by kernel_rfl) (by kernel_rfl)
  have h192 := @run_callFunc_extern Tryz.prog 192 _ (ReflectliteType.abiMethod fun t => do pure (.int .u8 (← Rtype.kind t))) Tryz.func192 (by kernel_rfl) (by kernel_rfl) (by kernel_rfl) (by kernel_rfl)
  have h202 := @run_callFunc_extern Tryz.prog 202 _ (ReflectliteType.method ReflectliteType.elem) Tryz.func202 (by kernel_rfl) (by kernel_rfl) (by kernel_rfl) (by kernel_rfl)
  have h203 := @run_callFunc_extern Tryz.prog 203 _ (ReflectliteType.relation "Implements" ReflectliteType.implements_) Tryz.func203 (by kernel_rfl) (by kernel_rfl) (by kernel_rfl) (by kernel_rfl)
  have f41 := As.valueOf71 ⟨t, 0, none⟩ W
  have f42 := As.type71
  have mK := As.methodKind
  have mE := As.methodElem
  have mI := As.methodImplements
  have k71 := As.kind71
  have k66 := As.kind66
  have e71 := As.elem71
  have i66 := As.implements66
  have hlt : 0 < W.heap.size := World.block_lt_of_cell? W ⟨0, 0, none⟩ hg
  have htl : t < W.heap.size := World.block_lt_of_cell? W ⟨t, 0, none⟩ ht
  have n43 := As.isNil71 ⟨W.heap.size, 0, none⟩ ⟨t, 0, none⟩ ((W.alloc (.cells #[.pointer (some ⟨t, 0, none⟩)] 71)).alloc (.cells #[.pointer (some ⟨2, 71, none⟩), .pointer (some ⟨W.heap.size, 0, none⟩), .int .u64 150] 100)) (by simp)
  have hg2 : ((W.alloc (.cells #[.pointer (some ⟨t, 0, none⟩)] 71)).alloc (.cells #[.pointer (some ⟨2, 71, none⟩), .pointer (some ⟨W.heap.size, 0, none⟩), .int .u64 150] 100)).cell? ⟨0, 0, none⟩ = some (.iface 132 (.agg #[.pointer (some ⟨2, 69, none⟩)])) := by
    rw [World.cell?_alloc_lt _ _ ⟨0, 0, none⟩ (by simp), World.cell?_alloc_lt _ _ ⟨0, 0, none⟩ hlt]; exact hg
  have HB := Lib.hid (((Below.refl W.heap.size W).alloc (Nat.le_refl _) (.cells #[.pointer (some ⟨t, 0, none⟩)] 71)).alloc (by simp) (.cells #[.pointer (some ⟨2, 71, none⟩), .pointer (some ⟨W.heap.size, 0, none⟩), .int .u64 150] 100))
  have HA := Lib.hid (fun W2 (hw : W2 = ((W.alloc (.cells #[.pointer (some ⟨t, 0, none⟩)] 71)).alloc (.cells #[.pointer (some ⟨2, 71, none⟩), .pointer (some ⟨W.heap.size, 0, none⟩), .int .u64 150] 100))) => as44 hx t W.heap.size old W2 (by rw [hw]; simp) (by rw [hw]; exact (HB.out.cell (p := ⟨t, 0, none⟩) htl).trans ht) (by rw [hw]; exact (HB.out.frozen (p := ⟨t, 0, none⟩) htl).trans hf))
  clear hx ht hf
  go_enter Tryz.func26, Tryz.ntmps26
  go_wp2_with (go_at_call 44; refine stop_here ?_)
  refine go_on ?_
  refine (HA.out _ rfl).mono ?_
  rintro e w2 ⟨rfl, Wm, hb, rfl⟩
  have HB2 := Lib.hid (HB.out.trans (hb.mono HB.out.size))
  clear hb HA
  go_wp2_with fail
  go_ret
  exact ⟨rfl, Wm, HB2.out, rfl⟩
end Go.Proofs.YtdbniocnjhfhdaaGreatDoor
/-
  The loader: Load, walked.
-/
set_option linter.unusedSimpArgs false
set_option linter.unusedVariables false
set_option maxRecDepth 100000
set_option maxHeartbeats 1000000
namespace Go.Proofs.YtdbniocnjhfhdaaGreatDoor
open Go Go.RowKit Lib Go.Maps
/-- The same loader, another block kept apart. -/
def LPos.at (L : LPos) (X : Nat) : LPos := { L with ex := X }
theorem LPos.ro_at {L : LPos} {v : Value} {g X : Nat} (h : L.ro v g) (hg : g ≠ X) : (L.at X).ro v g := ⟨h.1, h.2.1, h.2.2.1, h.2.2.2.1, h.2.2.2.2.1, h.2.2.2.2.2.1, hg⟩
theorem LdG.withEx {B : Nat} {L : LPos} {nd : Nat} {defs : List UInt8 → Option (List UInt8)} {files : List UInt8 → Option ClassV} {ks going : List (List UInt8)} {ts : List TyV} {v : Value} {W : World} (h : LdG B L nd defs files ks going ts v W) (o : Obj) :
    LdG B (L.at W.heap.size) nd defs files ks going ts v (W.alloc o) := by
  have hb := (Below.refl W.heap.size W).alloc (Nat.le_refl _) o
  have h' := h.below hb
  have hk : Kept (L.ro v) W (W.alloc o) := Kept.of_below hb
  have hr : ∀ g, g < W.heap.size → L.ro v g → (L.at W.heap.size).ro v g := fun g hg hr => LPos.ro_at hr (by omega)
  have ho := h.ord
  have hl := h.lt
  obtain ⟨fd, d1, d2⟩ := h.hd
  obtain ⟨ff, n1, f0, f1, f2⟩ := h.hf
  exact ⟨h'.c0, h'.c1, h'.c2, h'.c3, h'.c4, h'.fz, ⟨fd, d1.keep (hb.block _ d1.lt), fun s => (d2 s).keep hk hr⟩, ⟨ff, n1, f0, f1.keep (hb.block _ f1.lt), fun s => (f2 s).keep hk hr⟩, h'.hk, h'.hg, h'.ty, fun t ht => (h.rd t ht).keep hk hr, h.ord, h.new, h'.lt,
    by simp [LPos.at], fun g hg => by have := (h.ty.lt g hg).2; simp only [LPos.at]; omega, by simp only [LPos.at]; omega⟩
def strOf : Option ByteArray → ByteArray
  | none => ⟨#[]⟩
  | some e => langB e
/-- What Load leaves. -/
def TopPost (B : Nat) (L : LPos) (nd : Nat) (defs : List UInt8 → Option (List UInt8)) (dn : List (List UInt8)) (v : Value) (W : World) (r : Option ByteArray × LT) (e : Ending) (W' : World) : Prop :=
  e = .returned (.string (strOf r.1)) ∧ ∃ X ts' v', ts'.map TyV.key = r.2.ts ∧ LdG B (L.at X) nd defs r.2.files (ts'.map TyV.name) [] ts' v' W' ∧ KsOk dn (ts'.map TyV.name) ∧ Below B W W' ∧ (∀ g, g < W.heap.size → L.frp v g → W'.heap[g]? = W.heap[g]?)
theorem loadTop_any (CE : ClassV → Int) (defs : List UInt8 → Option (List UInt8)) (dn : List (List UInt8)) (K : LdK CE defs dn) (B : Nat) (L : LPos) (nd : Nat) (files : List UInt8 → Option ClassV) (ts : List TyV) (v : Value) (W : World) (s : ByteArray)
    (h : LdG B L nd defs files (ts.map TyV.name) [] ts v W) (hk : KsOk dn (ts.map TyV.name)) (hs : s.size ≤ 65536) (hB : 0 < B) (hgl : W.cell? ⟨0, 0, none⟩ = some (.iface 132 (.agg #[.pointer (some ⟨2, 69, none⟩)]))) :
    Calls Tryz.prog 13 #[.pointer (some ⟨L.lb, 0, none⟩), .string s] W (TopPost B L nd defs dn v W (loadP (rdD CE defs) 65 [] ⟨ts.map TyV.key, files⟩ s)) := by
  have hBW := h.lb_le
  have HC := Lib.hid (load_any CE defs dn K 65 B (L.at W.heap.size) nd files ts v (W.alloc (.cells #[.string ⟨#[]⟩] 66)) [] s (h.withEx _) hk hs (by have := K.cnt; have := List.length_filter_le (fun x => decide (x ∉ ([] : List (List UInt8)))) dn; omega) (by simp))
  obtain ⟨q, hq⟩ : ∃ q, loadP (rdD CE defs) 65 [] ⟨ts.map TyV.key, files⟩ s = q := ⟨_, rfl⟩
  rw [hq] at HC ⊢
  have HX := Lib.hid (bx_new W [.string ⟨#[]⟩] 66)
  have HGL := Lib.hid hgl
  have HB := Lib.hid ((Below.refl W.heap.size W).alloc (Nat.le_refl _) (.cells #[.string ⟨#[]⟩] 66))
  have HV := Lib.hid (fun g (hg : v.ownBlock = some g) => (h.ty.lt g hg).2)
  have hord := h.ord
  have hlt0 := h.lt
  clear hq h hk hgl
  go_enter Tryz.func13, Tryz.ntmps13
  go_wp2_with (go_at_call 27; refine stop_here ?_)
  refine go_on ?_
  refine HC.out.mono ?_
  rintro e W1 ⟨x, ts1, v1, rfl, hx, hts, hg, hk, hf⟩
  obtain ⟨q1, σ1⟩ := q
  have hz1 := hf.bel.size
  have HG := Lib.hid hg
  have HK := Lib.hid hk
  have HF := Lib.hid hf
  have HTS := Lib.hid hts
  clear hts hg hk hf HC
  cases q1 with
  | none =>
    obtain rfl : x = .nilIface := hx
    go_wp2_with (go_at_call 26; refine (as_nil _ _).mono ?_; rintro e w2 ⟨rfl, rfl⟩)
    go_ret
    refine ⟨rfl, W.heap.size, ts1, v1, HTS.out, HG.out, HK.out, (HB.out.mono hBW).trans HF.out.bel, fun g hg hr => (HF.out.blk g (by simp; omega) hr).trans (HB.out.block g hg)⟩
  | some er =>
    have hx' : ErrV x er := hx
    have HXX := Lib.hid hx'
    have hex := HG.out.nex
    have hexl := HG.out.exl
    have hfx : (L.at W.heap.size).frp v W.heap.size := ⟨by simp only [LPos.at]; omega, by simp only [LPos.at]; omega, by simp only [LPos.at]; omega, by simp only [LPos.at]; omega, by simp only [LPos.at]; omega, fun e => by have := HV.out _ e; omega⟩
    have hbx := (HF.out.blk W.heap.size (by simp) hfx).trans HX.out
    have hX1 : Bx W1 W.heap.size [.string ⟨#[]⟩] 66 := hbx
    have hg1 : W1.cell? ⟨0, 0, none⟩ = some (.iface 132 (.agg #[.pointer (some ⟨2, 69, none⟩)])) := (HF.out.bel.cell (p := ⟨0, 0, none⟩) hB).trans ((HB.out.cell (p := ⟨0, 0, none⟩) (show (0 : Nat) < W.heap.size by omega)).trans HGL.out)
    have HAS := Lib.hid (as_any hx' W.heap.size (.string ⟨#[]⟩) W1 hg1 (hX1.cell 0 rfl) (hX1.frozen 0))
    have HX1 := Lib.hid hX1
    obtain ⟨T, y, rfl⟩ := hx'.iface
    clear hx hx' hfx hbx hX1 hg1
    go_wp2_with (go_at_call 26; refine stop_here ?_)
    refine go_on ?_
    refine HAS.out.mono ?_
    rintro e w2 ⟨rfl, Wm, hbm, rfl⟩
    have HX2 := Lib.hid ((HX1.out.below hbm HX1.out.lt).set 0 (.string (langB er)))
    have HBM := Lib.hid hbm
    clear hbm
    generalize hW2 : Wm.setCell ⟨W.heap.size, 0, none⟩ (.string (langB er)) = W2 at *
    have HW2 := Lib.hid hW2
    clear hW2
    have cx := HX2.out.cell 0 rfl
    go_wp2_with fail
    go_ret
    have hbm := HBM.out
    have hgm := HG.out.below hbm
    have hbs : But Wm.heap.size [W.heap.size] Wm W2 := by rw [← HW2.out]; exact (But.refl _ _ _).set ⟨W.heap.size, 0, none⟩ (.inl (by simp)) _
    have hsm := hbm.size
    refine ⟨rfl, W.heap.size, ts1, v1, HTS.out, ?_, HK.out, ?_, fun g hg hr => ?_⟩
    · obtain ⟨n3, k0, k1⟩ := hgm.hg
      have hlast := hex
      simp only [LPos.at] at hlast
      replace hlast := hlast.resolve_left (by omega)
      exact hgm.but [W.heap.size] hbs (fun g hm => by
        obtain rfl : g = W.heap.size := by simpa using hm
        exact ⟨hlast.1, hlast.2.1, hlast.2.2.1, hlast.2.2.2.1, fun hr => hr.2.2.2.2.2.2 rfl, fun e => hgm.newx _ e rfl⟩) ⟨n3, k0, k1.but hbs k1.lt (fun hm => by simp only [LPos.at, List.mem_singleton] at hm; omega)⟩
    · exact ((HB.out.mono hBW).trans (HF.out.bel.trans (hbm.mono HG.out.lb_le))).trans ((hbs.mono (S' := []) (Nat.le_trans HG.out.lb_le hsm) (fun k hk hm => by simp at hm; omega)).below)
    · rw [hbs.block g (by simp at hz1; omega) (by simp; omega), hbm.block g (by simp at hz1; omega)]
      exact (HF.out.blk g (by simp; omega) hr).trans (HB.out.block g hg)
end Go.Proofs.YtdbniocnjhfhdaaGreatDoor
/-
  desc.letters and desc.Class, at every string.
-/
set_option linter.unusedSimpArgs false
set_option linter.unusedVariables false
set_option maxRecDepth 100000
set_option maxHeartbeats 400000
namespace Go.Proofs.YtdbniocnjhfhdaaGreatDoor
open Go Go.RowKit Lib
/-- A round's 'next' at whatever letter. -/
theorem wpl_next_any {P : Program} {W : World} {ops : Array Oper} {rest : List Oper} {o : Oper} {a : Act} {Q : Exit → Act → World → Prop} {x : Operand} (hop : o.op = .next x true) (hgd : o.guard = none)
    {k : Nat} {s : ByteArray} {pos : Nat} (hx : a.eval x = .pointer (some ⟨k, 0, none⟩)) (hk : W.heap[k]? = some (.stringIter s pos)) (hlt : pos < s.size)
    (h : ∀ W' : World, W'.heap[k]? = some (.stringIter s (pos + (Utf8.decode s pos).2)) → (∀ b, W'.cell? b = W.cell? b) → (∀ b, W'.frozen? b = W.frozen? b) → W'.heap.size = W.heap.size → (∀ j, j ≠ k → W'.heap[j]? = W.heap[j]?) → Hid (Below k W W') →
      wpList P ops Q rest (a.put o.dst (.tuple #[.bool true, .int .i64 pos, .int .i32 (Utf8.decode s pos).1])) W') : wpList P ops Q (o :: rest) a W := by
  refine wpList_plain hgd fun K hK => ?_
  have hr := run_next_any_at (P := P) W k s pos o.type hk hlt
  unfold Oper.wp execOp
  simp only [hop, hx, hr, Sem.run_bind, Result.andThen_ok, Sem.run_pure]
  exact hK _ _ (h (W.iterAt k s (pos + (Utf8.decode s pos).2)) (iterAt_heap W k s pos _ hk) (iterAt_cell W k s pos _ hk) (iterAt_frozen W k s pos _ hk) (iterAt_size W k s _) (fun j hj => iterAt_other W k j s _ hj) (below_iterAt (Below.refl _ _) (Nat.le_refl _) _ _))
/-- A letter that may stand in a name, without some. -/
def goodB (wo : List UInt8) (c : UInt8) : Bool := decide (33 ≤ c.toNat) && decide (c.toNat ≤ 126) && !decide (0 ≤ Lib.indexByte wo c)
def lettersB (wo l : List UInt8) : Bool := l.all (goodB wo) && !l.isEmpty && decide (l.length ≤ 255)
theorem letters_bad {wo l : List UInt8} {j : Nat} {b : UInt8} (h : l[j]? = some b) (hb : goodB wo b = false) : lettersB wo l = false := by
  have : l.all (goodB wo) = false := by
    rw [List.all_eq_false]
    exact ⟨b, List.mem_of_getElem? h, by simp [hb]⟩
  simp [lettersB, this]
theorem byte_list {s : ByteArray} {j : Nat} (h : j < s.size) : s.data.toList[j]? = some (s[j]'h) := by
  have hl : s.data.toList.length = s.size := by simp
  rw [List.getElem?_eq_getElem (by omega)]
  rfl
theorem letters_any (s wo : ByteArray) (w : World) (hm : s.size ≤ 9223372036854775807) :
    Calls Tryz.prog 48 #[.string s, .string wo] w fun e w' => e = .returned (.bool (lettersB wo.data.toList s.data.toList)) ∧ Below w.heap.size w w' := by
  go_enter Tryz.func48, Tryz.ntmps48
  go_wp2_with fail
  go_loopw [6] (fun _ wr => ∃ j : Nat, j ≤ s.size ∧ wr.heap[w.heap.size]? = some (.stringIter s j) ∧ (∀ i, i < j → ∀ b, s.data.toList[i]? = some b → goodB wo.data.toList b = true) ∧ Hid (Below w.heap.size w wr)) (fun _ wr => s.size - wr.iterPos w.heap.size)
  case atStart => exact ⟨0, by omega, by first | exact World.iter_heap w s 0 | simp [World.iter], fun i hi => absurd hi (by omega), by first | exact (Below.refl _ _).alloc (Nat.le_refl _) _ | exact Lib.hid ((Below.refl _ _).alloc (Nat.le_refl _) _)⟩
  case round =>
    obtain ⟨j, hj, hk, hgood, HB⟩ := hrel
    have hkl : w.heap.size < wr.heap.size := by
      rcases Nat.lt_or_ge w.heap.size wr.heap.size with h | h
      · exact h
      · rw [Array.getElem?_eq_none h] at hk
        cases hk
    by_cases hlt : j < s.size
    · obtain ⟨b, hb⟩ : ∃ b, b = s[j]'hlt := ⟨_, rfl⟩
      have hbl : s.data.toList[j]? = some b := by rw [byte_list hlt, hb]
      have hb2 := b.toNat_lt
      have hhigh0 : 128 ≤ b.toNat → 128 ≤ (Utf8.decode s j).1 := fun h => (decode_high s j hlt (by rw [← hb]; exact h)).1
      clear hb
      by_cases h128 : b.toNat < 128
      · by_cases h33 : b.toNat < 33
        · have hbad := letters_bad (wo := wo.data.toList) hbl (by simp [goodB]; omega)
          have h33' : (b.toNat : Int) < 33 := by omega
          go_wp2_with (refine wpl_next rfl rfl rfl hk b.toNat (by rw [hbl]; simp) h128 ?_; intro W1 hk1 hc1 hf1 hs1 hh1 hn1; clear hh1)
          go_ret
          exact ⟨by first | (rw [hbad]; rfl) | rfl, HB.out.trans (hn1.out)⟩
        · by_cases h126 : 126 < b.toNat
          · have hbad := letters_bad (wo := wo.data.toList) hbl (by simp [goodB]; omega)
            have h33' : ¬ (b.toNat : Int) < 33 := by omega
            have h126' : (126 : Int) < b.toNat := by omega
            go_wp2_with (refine wpl_next rfl rfl rfl hk b.toNat (by rw [hbl]; simp) h128 ?_; intro W1 hk1 hc1 hf1 hs1 hh1 hn1; clear hh1)
            go_ret
            exact ⟨by first | (rw [hbad]; rfl) | rfl, HB.out.trans (hn1.out)⟩
          · have h33' : ¬ (b.toNat : Int) < 33 := by omega
            have h126' : ¬ (126 : Int) < b.toNat := by omega
            obtain ⟨H, hH⟩ : ∃ H, H = decide (0 ≤ Lib.indexByte wo.data.toList b) := ⟨_, rfl⟩
            have HC : ∀ W, Calls Tryz.prog 71 #[.string wo, .int .i32 b.toNat] W fun e w' => e = .returned (.bool H) ∧ w' = W := fun W => by
              have := Tryz.strings_ContainsRune_ascii wo b.toNat W (by omega) (by omega)
              rw [Int.toNat_natCast, show b.toNat.toUInt8 = b from UInt8.ofNat_toNat, ← hH] at this
              exact this
            have HC' := Lib.hid HC
            have HH := Lib.hid hH
            clear HC hH
            cases H
            · go_wp2_with (first | (refine wpl_next rfl rfl rfl hk b.toNat (by rw [hbl]; simp) h128 ?_; intro W1 hk1 hc1 hf1 hs1 hh1 hn1; clear hh1) | (go_at_call 71; refine (HC'.out _).mono ?_; rintro e w2 ⟨rfl, rfl⟩))
              go_roundw
              case rel =>
                refine ⟨j + 1, by omega, hk1, fun i hi c hc => ?_, Lib.hid (HB.out.trans hn1.out)⟩
                by_cases hij : i = j
                · subst hij
                  rw [hbl] at hc
                  injection hc with hc
                  subst hc
                  simp [goodB, ← HH.out]
                  omega
                · exact hgood i (by omega) c hc
              case measure =>
                simp only [World.iterPos, hk1, hk]
                omega
            · have hbad := letters_bad (wo := wo.data.toList) hbl (by simp [goodB, ← HH.out])
              go_wp2_with (first | (refine wpl_next rfl rfl rfl hk b.toNat (by rw [hbl]; simp) h128 ?_; intro W1 hk1 hc1 hf1 hs1 hh1 hn1; clear hh1) | (go_at_call 71; refine (HC'.out _).mono ?_; rintro e w2 ⟨rfl, rfl⟩))
              go_ret
              exact ⟨by first | (rw [hbad]; rfl) | rfl, HB.out.trans (hn1.out)⟩
      · have hbad := letters_bad (wo := wo.data.toList) hbl (by simp [goodB]; omega)
        have hhigh := hhigh0 (by omega)
        obtain ⟨r, hr⟩ : ∃ r, r = (Utf8.decode s j).1 := ⟨_, rfl⟩
        rw [← hr] at hhigh
        clear hhigh0
        have h33' : ¬ r < 33 := by omega
        have h126' : 126 < r := by omega
        have hdec : (Utf8.decode s j).1 = r := hr.symm
        clear hr
        go_wp2_with (refine wpl_next_any rfl rfl rfl hk hlt ?_; rw [hdec]; intro W1 hk1 hc1 hf1 hs1 hh1 hn1; clear hh1)
        go_ret
        exact ⟨by first | (rw [hbad]; rfl) | rfl, HB.out.trans (hn1.out)⟩
    · have hall : s.data.toList.all (goodB wo.data.toList) = true := by
        rw [List.all_eq_true]
        intro b hb
        obtain ⟨i, hi⟩ := List.mem_iff_getElem?.1 hb
        have hl : s.data.toList.length = s.size := by simp
        have := (List.getElem?_eq_some_iff.1 hi).1
        exact hgood i (by omega) b hi
      have h255 : s.size ≤ 255 ∨ ¬ s.size ≤ 255 := by omega
      rcases h255 with h255 | h255
      all_goals go_wp2_with (refine wpl_next_end rfl rfl rfl hk (by simp; omega) ?_)
      all_goals go_ret
      all_goals refine ⟨?_, HB.out⟩
      all_goals
        show Ending.returned (.bool _) = _
        have ht : s.toList = s.data.toList := by cases s; exact ByteArray.toList_mk _
        have hsz : s.data.toList.length = s.size := by simp
        congr 2
        rw [lettersB, hall, hsz]
        cases hs : s.data.toList <;> simp_all <;> (try omega)
/-- No two slashes side by side, none at an end. -/
def slashB : UInt8 → List UInt8 → Bool
  | last, [] => !(last == 47)
  | last, c :: l => !(c == 47 && last == 47) && slashB c l
def classB (l : List UInt8) : Bool := lettersB [46, 59, 91] l && slashB 47 l
theorem slash_step {l : List UInt8} {j : Nat} {b lb : UInt8} (h : l[j]? = some b) : slashB lb (l.drop j) = (!(b == 47 && lb == 47) && slashB b (l.drop (j + 1))) := by
  have hj := (List.getElem?_eq_some_iff.1 h).1
  have he := (List.getElem?_eq_some_iff.1 h).2
  rw [List.drop_eq_getElem_cons hj, he]
  rfl
theorem class_any (s : ByteArray) (w : World) (hm : s.size ≤ 9223372036854775807) :
    Calls Tryz.prog 29 #[.string s] w fun e w' => e = .returned (.bool (classB s.data.toList)) ∧ Below w.heap.size w w' := by
  have HLT : ∀ W, Calls Tryz.prog 48 #[.string s, .string ⟨#[46, 59, 91]⟩] W fun e w' => e = .returned (.bool (lettersB [46, 59, 91] s.data.toList)) ∧ Below W.heap.size W w' := fun W => letters_any s ⟨#[46, 59, 91]⟩ W hm
  have HL' := Lib.hid HLT
  clear HLT
  by_cases hlet : lettersB [46, 59, 91] s.data.toList = true
  · have hall : ∀ b ∈ s.data.toList, goodB [46, 59, 91] b = true := by
      simp only [lettersB, Bool.and_eq_true] at hlet
      exact List.all_eq_true.1 hlet.1.1
    rw [hlet] at HL'
    have HLET := Lib.hid hlet
    have HALL := Lib.hid hall
    clear hlet hall
    go_enter Tryz.func29, Tryz.ntmps29
    go_wp2_with (go_at_call 48; refine (HL'.out _).mono ?_; rintro e w1 ⟨rfl, hb1⟩; have HB1 := Lib.hid hb1; clear hb1)
    have hz1 := HB1.out.size
    go_loopw [3, 5] (fun la _ wr => ∃ (j : Nat) (lb : UInt8), la = .int .i32 lb.toNat ∧ j ≤ s.size ∧ wr.heap[w1.heap.size]? = some (.stringIter s j) ∧ Hid (slashB 47 s.data.toList = slashB lb (s.data.toList.drop j)) ∧ Hid (Below w.heap.size w wr)) (fun _ _ wr => s.size - wr.iterPos w1.heap.size)
    case atStart => exact ⟨0, 47, rfl, by omega, by first | exact World.iter_heap w1 s 0 | simp [World.iter], by first | exact rfl | exact Lib.hid rfl, by first | exact HB1.out.alloc hz1 _ | exact Lib.hid (HB1.out.alloc hz1 _)⟩
    case round =>
      obtain ⟨j, lb, rfl, hj, hk, HS, HB⟩ := hrel
      have hlb := lb.toNat_lt
      by_cases hlt : j < s.size
      · obtain ⟨b, hb⟩ : ∃ b, b = s[j]'hlt := ⟨_, rfl⟩
        have hbl : s.data.toList[j]? = some b := by rw [byte_list hlt, hb]
        have hg := HALL.out b (List.mem_of_getElem? hbl)
        simp only [goodB, Bool.and_eq_true, decide_eq_true_eq] at hg
        have h128 : b.toNat < 128 := by omega
        have HST := Lib.hid (slash_step (lb := lb) hbl)
        clear hb hg
        by_cases h47 : b.toNat = 47
        · have hbb : b = 47 := UInt8.toNat_inj.1 h47
          subst hbb
          by_cases hl47 : lb.toNat = 47
          · have hlb2 : lb = 47 := UInt8.toNat_inj.1 hl47
            subst hlb2
            go_wp2_with (refine wpl_next rfl rfl rfl hk 47 (by rw [hbl]; rfl) (by omega) ?_; intro W1 hk1 hc1 hf1 hs1 hh1 hn1; clear hh1)
            go_ret
            refine ⟨?_, HB.out.trans (hn1.out.mono hz1)⟩
            have e : classB s.data.toList = false := by simp [classB, HS.out, HST.out]
            first | (rw [e]; rfl) | (simp [e])
          · have e1 : ((lb.toNat : Int) == 47) = false := by simp; omega
            go_wp2_with (refine wpl_next rfl rfl rfl hk 47 (by rw [hbl]; rfl) (by omega) ?_; intro W1 hk1 hc1 hf1 hs1 hh1 hn1; clear hh1)
            go_roundw
            case rel =>
              refine ⟨j + 1, 47, rfl, by omega, hk1, Lib.hid ?_, Lib.hid (HB.out.trans (hn1.out.mono hz1))⟩
              rw [HS.out, HST.out]
              have : (lb == 47) = false := by
                rw [beq_eq_false_iff_ne]
                intro e
                subst e
                exact hl47 rfl
              simp [this]
            case measure =>
              simp only [World.iterPos, hk1, hk]
              omega
        · have e1 : ((b.toNat : Int) == 47) = false := by simp; omega
          go_wp2_with (refine wpl_next rfl rfl rfl hk b.toNat (by rw [hbl]; simp) h128 ?_; intro W1 hk1 hc1 hf1 hs1 hh1 hn1; clear hh1)
          go_roundw
          case rel =>
            refine ⟨j + 1, b, rfl, by omega, hk1, Lib.hid ?_, Lib.hid (HB.out.trans (hn1.out.mono hz1))⟩
            rw [HS.out, HST.out]
            have : (b == 47) = false := by
              rw [beq_eq_false_iff_ne]
              intro e
              subst e
              exact h47 rfl
            simp [this]
          case measure =>
            simp only [World.iterPos, hk1, hk]
            omega
      · go_wp2_with (refine wpl_next_end rfl rfl rfl hk (by simp; omega) ?_)
        go_ret
        refine ⟨?_, HB.out⟩
        show Ending.returned (.bool _) = _
        congr 2
        have hd : s.data.toList.drop j = [] := List.drop_of_length_le (by simp; omega)
        rw [classB, HLET.out, HS.out, hd]
        show ((lb.toNat : Int) != 47) = _
        by_cases h47 : lb = 47
        · subst h47
          rfl
        · have h1 : lb.toNat ≠ 47 := fun e => h47 (UInt8.toNat_inj.1 e)
          have h2 : (lb == 47) = false := by rw [beq_eq_false_iff_ne]; exact h47
          simp [slashB, h2]
          omega
  · have hf : lettersB [46, 59, 91] s.data.toList = false := by simpa using hlet
    have hc : classB s.data.toList = false := by simp [classB, hf]
    rw [hf] at HL'
    clear hf hlet
    go_enter Tryz.func29, Tryz.ntmps29
    go_wp2_with (go_at_call 48; refine (HL'.out _).mono ?_; rintro e w1 ⟨rfl, hb1⟩; have HB1 := Lib.hid hb1; clear hb1)
    go_ret
    exact ⟨by first | (rw [hc]; rfl) | rfl, HB1.out⟩
end Go.Proofs.YtdbniocnjhfhdaaGreatDoor
/-
  core.Own, at every string.
-/
set_option linter.unusedSimpArgs false
set_option linter.unusedVariables false
set_option maxRecDepth 100000
set_option maxHeartbeats 2000000
namespace Go.Proofs.YtdbniocnjhfhdaaGreatDoor
open Go Go.RowKit Lib
def ownB (l : List UInt8) : Bool := Lib.hasPrefix l [106, 97, 118, 97, 47] || Lib.hasPrefix l [118, 109, 47]
theorem own_any (s : ByteArray) (w : World) :
    Calls Tryz.prog 30 #[.string s] w fun e w' => e = .returned (.bool (ownB s.data.toList)) ∧ w' = w := by
  obtain ⟨H1, h1⟩ : ∃ H, H = Lib.hasPrefix s.data.toList [106, 97, 118, 97, 47] := ⟨_, rfl⟩
  obtain ⟨H2, h2⟩ : ∃ H, H = Lib.hasPrefix s.data.toList [118, 109, 47] := ⟨_, rfl⟩
  have A1 : ∀ W, Calls Tryz.prog 49 #[.string s, .string ⟨#[106, 97, 118, 97, 47]⟩] W fun e w' => e = .returned (.bool H1) ∧ w' = W := fun W => by rw [h1]; exact Tryz.strings_HasPrefix s ⟨#[106, 97, 118, 97, 47]⟩ W
  have A2 : ∀ W, Calls Tryz.prog 49 #[.string s, .string ⟨#[118, 109, 47]⟩] W fun e w' => e = .returned (.bool H2) ∧ w' = W := fun W => by rw [h2]; exact Tryz.strings_HasPrefix s ⟨#[118, 109, 47]⟩ W
  have A1' := Lib.hid A1
  have A2' := Lib.hid A2
  have E : Hid (ownB s.data.toList = (H1 || H2)) := Lib.hid (by rw [ownB, h1, h2])
  clear A1 A2 h1 h2
  rw [E.out]
  cases H1
  · go_enter Tryz.func30, Tryz.ntmps30
    go_wp2_with fail
    refine (A1'.out _).mono ?_
    rintro e w1 ⟨rfl, rfl⟩
    go_wp2_with fail
    refine (A2'.out _).mono ?_
    rintro e w2 ⟨rfl, rfl⟩
    go_wp2_with fail
    go_ret
    exact ⟨by simp, rfl⟩
  · go_enter Tryz.func30, Tryz.ntmps30
    go_wp2_with fail
    refine (A1'.out _).mono ?_
    rintro e w1 ⟨rfl, rfl⟩
    go_wp2_with fail
    go_ret
    exact ⟨rfl, rfl⟩
end Go.Proofs.YtdbniocnjhfhdaaGreatDoor
