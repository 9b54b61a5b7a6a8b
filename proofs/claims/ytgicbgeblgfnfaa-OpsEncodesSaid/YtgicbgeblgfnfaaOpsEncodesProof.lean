/-
  turnstile/turnstilelaw6.OpsEncodes answers true at every argument; the arguments read behind the call as before. Conditions: none.
-/
import Derived.Test.YtgicbgeblgfnfaaRows
import Derived.Test.YtgicbgeblgfnfaaEncLaw
import Derived.WalkKit
import Derived.ProofKit
import Derived.OpenShut
import Derived.ShutString
import Derived.ChangeOld
import Derived.Below
import Derived.Lib.SmallJoins
set_option linter.unusedSimpArgs false
namespace Go.Proofs.Ytgicbgeblgfnfaa.opsEncodes
open Go.ChangeShapes Go.WideShapes Go.ChangeAt Go.RowKit Go.Joins
open Go.ChangeMaps (open_string shut_string)
set_option linter.unusedVariables false

theorem own : ownKnob Try.prog.godebug = none := by kernel_rfl
theorem laidOut : laidOutB Try.prog = true := by kernel_rfl
theorem cellsOp : Try.prog.cellsOf 25 = 4 := by kernel_rfl

/-- The walk: the Go text returns true, and writes nothing that was there. -/
theorem walk (a00 a01 a02 a03 : Int) (a10 a11 a12 a13 : Int) (w : World) :
    Calls Try.prog 6 #[.agg #[.int .i64 a00, .int .i64 a01, .int .i64 a02, .int .i64 a03], .agg #[.int .i64 a10, .int .i64 a11, .int .i64 a12, .int .i64 a13]] w fun e w' => e = .returned (.bool true) ∧ Below w.heap.size w w' := by
  exact encodes_any a00 a01 a02 a03 a10 a11 a12 a13 w

set_option maxRecDepth 100000 in
theorem lifted (os : Os) (started : os.Started) (H : Type) (enc : TypeId × Value → H) :
    ReturnsInHanded {} Try.checked os 6 .any (Rows.opsEncodesSpec.pre6 enc Try.prog Try.f6 Rows.opsEncodesRow.domain false) (Rows.opsEncodesSpec.post enc Try.prog Try.f6 false true false false) := by
  refine returnsInHanded_of_change (C := Try.checked) own started (by kernel_rfl) Try.func6
    (ChangeSpec.witness6 (enc := enc) (C := Try.checked) false ⟨#[], #[.agg #[.int .i64 0, .int .i64 0, .int .i64 0, .int .i64 0], .agg #[.int .i64 0, .int .i64 0, .int .i64 0, .int .i64 0]], []⟩ 8 (by kernel_rfl) (by kernel_rfl) (by kernel_rfl) (by kernel_rfl)) ?_
  intro W base args ds gs before hval0 hW hcnd _
  have hval : ∀ (j : Nat) t v, Try.f6.params[j]? = some t → args[j]? = some v → Value.okWide Try.prog W .any base t v := hval0
  have hW' := hW
  obtain ⟨p, q, hA0, hV, rfl, hfz, hnd⟩ := hW
  have hA : DataW.TrodAll enc Try.prog W 0 (fun _ => true) true Try.f6.params.toList args.toList ds p := hA0
  rw [Try.params6] at hA hval
  obtain ⟨v0, vs0, d0, ds0, p0, q0, hargs, rfl, rfl, h0, r0⟩ := trodAll_cons hA
  obtain ⟨v1, vs1, d1, ds1, p1, q1, rfl, rfl, rfl, h1, r1⟩ := trodAll_cons r0
  obtain ⟨rfl, rfl, rfl⟩ := trodAll_nil r1
  obtain rfl : args = #[v0, v1] := by cases args; simp_all
  obtain ⟨rfl, rfl⟩ := trodVars_none hV
  obtain ⟨c00, c01, c02, c03, y00, y01, y02, y03, m0, rfl, rfl, rfl, g00, g01, g02, g03⟩ := open_agg4 Try.underlying25 (by kernel_rfl) cellsOp (hval 0 25 v0 rfl rfl) h0
  obtain ⟨a00, e00, rfl, w00⟩ := DataW.trod_int Try.underlying3 g00
  obtain ⟨a01, e01, rfl, w01⟩ := DataW.trod_int Try.underlying3 g01
  obtain ⟨a02, e02, rfl, w02⟩ := DataW.trod_int Try.underlying3 g02
  obtain ⟨a03, e03, rfl, w03⟩ := DataW.trod_int Try.underlying3 g03
  simp at e00 e01 e02 e03
  subst e00 e01 e02 e03
  have k0 : ∀ (W' : World) (sp : Nat → Bool), DataW.Trod enc Try.prog W' 0 sp true 25 (.agg #[.int .i64 a00, .int .i64 a01, .int .i64 a02, .int .i64 a03]) (.agg [.lit (.int .i64 a00), .lit (.int .i64 a01), .lit (.int .i64 a02), .lit (.int .i64 a03)]) [] := fun W' sp =>
    shut_agg4 (y0 := (.lit (.int .i64 a00), [])) (y1 := (.lit (.int .i64 a01), [])) (y2 := (.lit (.int .i64 a02), [])) (y3 := (.lit (.int .i64 a03), [])) Try.underlying25 (by kernel_rfl) cellsOp ⟨1, by simp [DataW.trod, Try.underlying3, w00]⟩ ⟨1, by simp [DataW.trod, Try.underlying3, w01]⟩ ⟨1, by simp [DataW.trod, Try.underlying3, w02]⟩ ⟨1, by simp [DataW.trod, Try.underlying3, w03]⟩
  obtain ⟨c10, c11, c12, c13, y10, y11, y12, y13, m1, rfl, rfl, rfl, g10, g11, g12, g13⟩ := open_agg4 Try.underlying25 (by kernel_rfl) cellsOp (hval 1 25 v1 rfl rfl) h1
  obtain ⟨a10, e10, rfl, w10⟩ := DataW.trod_int Try.underlying3 g10
  obtain ⟨a11, e11, rfl, w11⟩ := DataW.trod_int Try.underlying3 g11
  obtain ⟨a12, e12, rfl, w12⟩ := DataW.trod_int Try.underlying3 g12
  obtain ⟨a13, e13, rfl, w13⟩ := DataW.trod_int Try.underlying3 g13
  simp at e10 e11 e12 e13
  subst e10 e11 e12 e13
  have k1 : ∀ (W' : World) (sp : Nat → Bool), DataW.Trod enc Try.prog W' 0 sp true 25 (.agg #[.int .i64 a10, .int .i64 a11, .int .i64 a12, .int .i64 a13]) (.agg [.lit (.int .i64 a10), .lit (.int .i64 a11), .lit (.int .i64 a12), .lit (.int .i64 a13)]) [] := fun W' sp =>
    shut_agg4 (y0 := (.lit (.int .i64 a10), [])) (y1 := (.lit (.int .i64 a11), [])) (y2 := (.lit (.int .i64 a12), [])) (y3 := (.lit (.int .i64 a13), [])) Try.underlying25 (by kernel_rfl) cellsOp ⟨1, by simp [DataW.trod, Try.underlying3, w10]⟩ ⟨1, by simp [DataW.trod, Try.underlying3, w11]⟩ ⟨1, by simp [DataW.trod, Try.underlying3, w12]⟩ ⟨1, by simp [DataW.trod, Try.underlying3, w13]⟩
  clear hA0 hval0
  try simp only [List.append_nil, List.nil_append] at hW'
  refine (walk a00 a01 a02 a03 a10 a11 a12 a13 W ).mono fun e W' ⟨he, bel⟩ => ?_
  subst he
  exact ⟨_, rfl, _, _, _, [], _, [], hW', trodAll_mk1 (shut_bool Try.underlying4 _), (trodAll_cons_mk (k0 _ _) (trodAll_cons_mk (k1 _ _) trodAll_mk0)), rfl, bel.frame _, fun h => by cases h⟩

theorem over : Rows.opsEncodesRow.holds Try.pinned (OpenSpec.ofChange Rows.opsEncodesSpec) :=
  OpenClaim.holds_of_wide 6 Try.f6 rfl rfl rfl rfl rfl rfl rfl ⟨rfl, rfl, rfl, rfl, rfl⟩ rfl rfl rfl rfl rfl (by kernel_rfl) Try.func6 (by kernel_rfl)
    (of_decide_eq_true (by kernel_rfl)) (by unfold Func.isWrapper; first | (rw [if_pos (by decide +kernel)]; kernel_rfl) | (rw [if_neg (by decide +kernel)]; exact ⟨rfl, rfl⟩))
    (fun os started H enc _ => lifted os started H enc)

/-- The statement. -/
theorem proved : Rows.OpsEncodesSaid := over
#print axioms proved
end Go.Proofs.Ytgicbgeblgfnfaa.opsEncodes
