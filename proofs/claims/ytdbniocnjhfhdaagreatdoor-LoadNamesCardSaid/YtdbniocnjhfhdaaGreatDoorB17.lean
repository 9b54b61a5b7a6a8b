/-
  What the loader's laws rest on, part 17: walks of the program's functions and plain laws. Conditions: none but those that each theorem names.
-/
import Derived.Test.YtdbniocnjhfhdaaGreatDoorB10
import Derived.Test.YtdbniocnjhfhdaaGreatDoorB14
import Derived.Test.YtdbniocnjhfhdaaGreatDoorB16
import Derived.Test.YtdbniocnjhfhdaaGreatDoorB01
/-
  The loader: what reading a definition answers; small laws for its walk.
-/
set_option linter.unusedSimpArgs false
set_option linter.unusedVariables false
set_option maxRecDepth 100000
set_option maxHeartbeats 2000000
namespace Go.Proofs.YtdbniocnjhfhdaaGreatDoor
open Go Go.RowKit Lib Go.Maps
def langB (s : ByteArray) : ByteArray := ⟨#[106, 97, 118, 97, 47, 108, 97, 110, 103, 47]⟩ ++ s
def noDefB : ByteArray := ⟨#[78, 111, 67, 108, 97, 115, 115, 68, 101, 102, 70, 111, 117, 110, 100, 69, 114, 114, 111, 114]⟩
def formB : ByteArray := ⟨#[67, 108, 97, 115, 115, 70, 111, 114, 109, 97, 116, 69, 114, 114, 111, 114]⟩
def versB : ByteArray := ⟨#[85, 110, 115, 117, 112, 112, 111, 114, 116, 101, 100, 67, 108, 97, 115, 115, 86, 101, 114, 115, 105, 111, 110, 69, 114, 114, 111, 114]⟩
def circB : ByteArray := ⟨#[67, 108, 97, 115, 115, 67, 105, 114, 99, 117, 108, 97, 114, 105, 116, 121, 69, 114, 114, 111, 114]⟩
def illeB : ByteArray := ⟨#[73, 108, 108, 101, 103, 97, 108, 65, 99, 99, 101, 115, 115, 69, 114, 114, 111, 114]⟩
def incoB : ByteArray := ⟨#[73, 110, 99, 111, 109, 112, 97, 116, 105, 98, 108, 101, 67, 108, 97, 115, 115, 67, 104, 97, 110, 103, 101, 69, 114, 114, 111, 114]⟩
/-- What reading a definition's bytes answers: the error's name; or the class, and the class by names. -/
def readQ (CE : ClassV → Int) (l : List UInt8) (name : ByteArray) : Except ByteArray (ClassV × TypV) :=
  match readP l with
  | .error _ => .error formB
  | .ok c => if CE c = 12 then .error versB else if CE c ≠ 0 then .error formB else if (outT c).name = name then .ok (c, outT c) else .error noDefB
/-- What the loader's read answers. -/
def LReadPost (r : Except ByteArray (ClassV × TypV)) (w : World) (e : Ending) (w' : World) : Prop := Below w.heap.size w w' ∧
  match r with
  | .error s => ∃ c9 t6 : List Value, c9.length = 9 ∧ t6.length = 6 ∧ (∀ u ∈ c9, u.oneCell' = true) ∧ (∀ u ∈ t6, u.oneCell' = true) ∧ e = .returned (.tuple #[.agg c9.toArray, .agg t6.toArray, failV (langB s)])
  | .ok (c, t) => ∃ p i f m iv fv mv, e = .returned (.tuple #[.agg (c.cells p i f m).toArray, .agg (t.vals iv fv mv).toArray, .nilIface]) ∧ ClassAt w' (fun g => w.heap.size ≤ g) c p i f m ∧ TypAt w' (fun g => w.heap.size ≤ g) t iv fv mv
theorem results_cct {P : Program} {fn : Func} {tmps : Array Value} {a b c : Tmp} {T U : TypeId} {g p : Nat} {vs us : List Value} {t u : TypeId} {w : World} {d d1 : TypeDesc} {x : Value} (hr : fn.results = #[.cell a T, .cell b U, .tmp c])
    (ha : tmps.getD a undef = .pointer (some ⟨g, 0, none⟩)) (hb : tmps.getD b undef = .pointer (some ⟨p, 0, none⟩)) (hx : tmps.getD c undef = x) (h1 : Bx w g vs t) (h2 : Bx w p us u)
    (hu : P.underlying T = some d) (hd : (match d with | .struct _ | .array _ _ => true | _ => false) = true) (hi : (P.info? T).map (·.size) = some vs.length)
    (hu1 : P.underlying U = some d1) (hd1 : (match d1 with | .struct _ | .array _ _ => true | _ => false) = true) (hi1 : (P.info? U).map (·.size) = some us.length) : (results fn tmps).run P w = .ok (.tuple #[.agg vs.toArray, .agg us.toArray, x]) w := by
  have r1 := run_loadVar_row (P := P) w g t T vs.toArray (0, 0) d h1 hu hd (by simpa using hi)
  have r2 := run_loadVar_row (P := P) w p u U us.toArray (0, 0) d1 h2 hu1 hd1 (by simpa using hi1)
  unfold results
  rw [hr]
  rw [Array.getD_eq_getD_getElem?] at ha hb hx
  simp [ha, hb, hx, asAddr, r1, r2, Result.andThen]
/-- A load of a whole struct, in the head of a region that draws. -/
theorem quiet_row {P : Program} {ops : Array Oper} {C : World → Prop} {Q : Act → Prop} {o : Oper} {rest : List Oper} {a : Act} (hg : o.guard = none) (ty : TypeId) (x : Operand) (ho : o.op = .load ty x) (g : Nat) (hx : a.eval x = .pointer (some ⟨g, 0, none⟩)) (t : TypeId) (cs : List Value) (d : TypeDesc)
    (hc : ∀ w, C w → Bx w g cs t) (hu : P.underlying ty = some d) (hd : (match d with | .struct _ | .array _ _ => true | _ => false) = true) (hi : (P.info? ty).map (·.size) = some cs.length)
    (h : wpQuiet P ops C Q rest (a.put o.dst (.agg cs.toArray))) : wpQuiet P ops C Q (o :: rest) a := by
  unfold wpQuiet
  rw [if_pos (by unfold Region.wanted; rw [hg])]
  refine ⟨.agg cs.toArray, fun w hw => ?_, h⟩
  have hr := run_loadVar_row (P := P) w g t ty cs.toArray (0, 0) d (hc w hw) hu hd (by simpa using hi)
  unfold Oper.quietAt execOp
  simp only [ho, hx, Instr.loadAt, Instr.sureAddr, Sem.run_bind, Sem.run_pure, Result.andThen_ok, hr]
  exact ⟨rfl, rfl⟩
theorem quiet_failed {ops : Array Oper} {C : World → Prop} {Q : Act → Prop} {rest : List Oper} {a : Act} (d : Tmp) (s : ByteArray) (hs : s.size ≤ 100) (ty : TypeId) (pos : String) (af : Array Edge) (hC : ∀ w w', C w → w' = w → C w')
    (h : wpQuiet Tryz.prog ops C Q rest (a.put (some d) (failV (langB s)))) : wpQuiet Tryz.prog ops C Q ({ dst := some d, op := .call { callee := .value (.func 45), args := #[.const (.string s)], argTypes := #[9] }, type := ty, pos := pos, after := af, guard := none } :: rest) a := by
  unfold wpQuiet
  refine if_pos_mp (by rfl) ?_
  refine ⟨_, fun w hw => ?_, h⟩
  refine ⟨rfl, ?_⟩
  have := (failed_any s hs w).mono (R' := fun e w' => e = .returned (failV (langB s)) ∧ C w') fun e w' hq => ⟨hq.1, hC w w' hw hq.2⟩
  simpa [Act.eval] using this
end Go.Proofs.YtdbniocnjhfhdaaGreatDoor
