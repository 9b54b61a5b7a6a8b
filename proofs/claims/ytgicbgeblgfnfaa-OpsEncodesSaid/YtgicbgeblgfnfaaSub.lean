/-
  The walks of ops.reckons and ops.others: the rows of the table in their ranges.
-/
import Derived.Test.YtgicbgeblgfnfaaKit
import Derived.Test.YtgicbgeblgfnfaaPure
set_option maxRecDepth 100000
set_option maxHeartbeats 4000000
set_option linter.unusedSimpArgs false
set_option linter.unusedVariables false
namespace Go.Proofs.Ytgicbgeblgfnfaa
open Go Go.RowKit
theorem reckons_any (c : Int) (w : World) (h1 : 87 ≤ c) (h2 : c ≤ 147) :
    Calls Try.prog 27 #[.int .i64 c] w fun e w' => e = .returned (.agg #[.string ⟨(rowOf c).1.toArray⟩, .string ⟨(rowOf c).2.toArray⟩]) ∧ Below w.heap.size w w' := by
  go_enter Try.func27, Try.ntmps27
  go_wp2
  all_goals
    simp only [beq_iff_eq, beq_eq_false_iff_ne, ne_eq] at *
    subst_vars
    refine bodyPost_ret (v := .agg #[.string ⟨(rowOf _).1.toArray⟩, .string ⟨(rowOf _).2.toArray⟩]) ?_ rfl ⟨rfl, ?_⟩
    all_goals first
      | (refine (Below.refl _ _).alloc ?_ _; simp; done)
      | (simp [results, Try.results27, go_sem, rowOf, rowL]; done)
      | (rw [rowOf_none (by simp [rowL]; omega)]; simp [results, Try.results27, go_sem]; done)
theorem others_any (c : Int) (w : World) (h1 : c < 0 ∨ 8 < c) (h2 : c < 26 ∨ 29 < c) (h3 : c < 42 ∨ 45 < c) (h4 : c < 59 ∨ 62 < c) (h5 : c < 75 ∨ 78 < c) (h6 : c < 87 ∨ 147 < c) (h7 : c < 153 ∨ 167 < c) (h8 : c < 16 ∨ 18 < c) (h9 : c ≠ 21) (h10 : c ≠ 25) (h11 : c ≠ 54) (h12 : c ≠ 58) :
    Calls Try.prog 28 #[.int .i64 c] w fun e w' => e = .returned (.agg #[.string ⟨(rowOf c).1.toArray⟩, .string ⟨(rowOf c).2.toArray⟩]) ∧ Below w.heap.size w w' := by
  go_enter Try.func28, Try.ntmps28
  go_wp2
  all_goals
    simp only [beq_iff_eq, beq_eq_false_iff_ne, ne_eq] at *
    subst_vars
    refine bodyPost_ret (v := .agg #[.string ⟨(rowOf _).1.toArray⟩, .string ⟨(rowOf _).2.toArray⟩]) ?_ rfl ⟨rfl, ?_⟩
    all_goals first
      | (refine (Below.refl _ _).alloc ?_ _; simp; done)
      | (simp [results, Try.results28, go_sem, rowOf, rowL]; done)
      | (rw [rowOf_none (by simp [rowL]; omega)]; simp [results, Try.results28, go_sem]; done)
end Go.Proofs.Ytgicbgeblgfnfaa
