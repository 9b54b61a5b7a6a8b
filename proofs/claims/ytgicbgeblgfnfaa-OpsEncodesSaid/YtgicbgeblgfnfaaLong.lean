/-
  The reference's Size of a letter and Long of a form.
-/
import Derived.Test.YtgicbgeblgfnfaaOpsB
import Derived.Test.YtgicbgeblgfnfaaKit4
set_option linter.unusedSimpArgs false
set_option linter.unusedVariables false
set_option maxRecDepth 100000
set_option maxHeartbeats 4000000
namespace Go.Proofs.Ytgicbgeblgfnfaa
open Go Go.RowKit Lib
theorem refsize_b (w : World) : Calls Try.prog 22 #[.int .u8 98] w fun e w' => e = .returned (.int .i64 1) ∧ w = w' := by
  go_enter Try.func22, Try.ntmps22
  go_wp2
  go_ret
  exact ⟨rfl, rfl⟩
theorem refsize_c (w : World) : Calls Try.prog 22 #[.int .u8 99] w fun e w' => e = .returned (.int .i64 2) ∧ w = w' := by
  go_enter Try.func22, Try.ntmps22
  go_wp2
  go_ret
  exact ⟨rfl, rfl⟩
theorem refsize_f (w : World) : Calls Try.prog 22 #[.int .u8 102] w fun e w' => e = .returned (.int .i64 2) ∧ w = w' := by
  go_enter Try.func22, Try.ntmps22
  go_wp2
  go_ret
  exact ⟨rfl, rfl⟩
theorem refsize_i (w : World) : Calls Try.prog 22 #[.int .u8 105] w fun e w' => e = .returned (.int .i64 4) ∧ w = w' := by
  go_enter Try.func22, Try.ntmps22
  go_wp2
  go_ret
  exact ⟨rfl, rfl⟩
theorem refsize_j (w : World) : Calls Try.prog 22 #[.int .u8 106] w fun e w' => e = .returned (.int .i64 2) ∧ w = w' := by
  go_enter Try.func22, Try.ntmps22
  go_wp2
  go_ret
  exact ⟨rfl, rfl⟩
theorem refsize_m (w : World) : Calls Try.prog 22 #[.int .u8 109] w fun e w' => e = .returned (.int .i64 2) ∧ w = w' := by
  go_enter Try.func22, Try.ntmps22
  go_wp2
  go_ret
  exact ⟨rfl, rfl⟩
theorem refsize_s (w : World) : Calls Try.prog 22 #[.int .u8 115] w fun e w' => e = .returned (.int .i64 2) ∧ w = w' := by
  go_enter Try.func22, Try.ntmps22
  go_wp2
  go_ret
  exact ⟨rfl, rfl⟩
theorem refsize_u (w : World) : Calls Try.prog 22 #[.int .u8 117] w fun e w' => e = .returned (.int .i64 1) ∧ w = w' := by
  go_enter Try.func22, Try.ntmps22
  go_wp2
  go_ret
  exact ⟨rfl, rfl⟩
theorem reflong_e (w : World) : Calls Try.prog 20 #[.string ⟨#[]⟩] w fun e w' => e = .returned (.int .i64 1) ∧ w = w' := by
  go_enter Try.func20, Try.ntmps20
  go_wp2
  refine wp_loop_rounds 1 ?_
  rw [rounds_succ]
  go_wp2_with (fail)
  go_ret
  exact ⟨rfl, rfl⟩
theorem reflong_b (w : World) : Calls Try.prog 20 #[.string ⟨#[98]⟩] w fun e w' => e = .returned (.int .i64 2) ∧ w = w' := by
  go_enter Try.func20, Try.ntmps20
  go_wp2
  refine wp_loop_rounds 2 ?_
  rw [rounds_succ]
  go_wp2_with (go_at_call 22; (first | (refine (refsize_b _).mono ?_)); rintro e w1 ⟨rfl, rfl⟩)
  rw [rounds_succ]
  go_wp2_with (go_at_call 22; (first | (refine (refsize_b _).mono ?_)); rintro e w1 ⟨rfl, rfl⟩)
  go_ret
  exact ⟨rfl, rfl⟩
theorem reflong_u (w : World) : Calls Try.prog 20 #[.string ⟨#[117]⟩] w fun e w' => e = .returned (.int .i64 2) ∧ w = w' := by
  go_enter Try.func20, Try.ntmps20
  go_wp2
  refine wp_loop_rounds 2 ?_
  rw [rounds_succ]
  go_wp2_with (go_at_call 22; (first | (refine (refsize_u _).mono ?_)); rintro e w1 ⟨rfl, rfl⟩)
  rw [rounds_succ]
  go_wp2_with (go_at_call 22; (first | (refine (refsize_u _).mono ?_)); rintro e w1 ⟨rfl, rfl⟩)
  go_ret
  exact ⟨rfl, rfl⟩
theorem reflong_s (w : World) : Calls Try.prog 20 #[.string ⟨#[115]⟩] w fun e w' => e = .returned (.int .i64 3) ∧ w = w' := by
  go_enter Try.func20, Try.ntmps20
  go_wp2
  refine wp_loop_rounds 2 ?_
  rw [rounds_succ]
  go_wp2_with (go_at_call 22; (first | (refine (refsize_s _).mono ?_)); rintro e w1 ⟨rfl, rfl⟩)
  rw [rounds_succ]
  go_wp2_with (go_at_call 22; (first | (refine (refsize_s _).mono ?_)); rintro e w1 ⟨rfl, rfl⟩)
  go_ret
  exact ⟨rfl, rfl⟩
theorem reflong_j (w : World) : Calls Try.prog 20 #[.string ⟨#[106]⟩] w fun e w' => e = .returned (.int .i64 3) ∧ w = w' := by
  go_enter Try.func20, Try.ntmps20
  go_wp2
  refine wp_loop_rounds 2 ?_
  rw [rounds_succ]
  go_wp2_with (go_at_call 22; (first | (refine (refsize_j _).mono ?_)); rintro e w1 ⟨rfl, rfl⟩)
  rw [rounds_succ]
  go_wp2_with (go_at_call 22; (first | (refine (refsize_j _).mono ?_)); rintro e w1 ⟨rfl, rfl⟩)
  go_ret
  exact ⟨rfl, rfl⟩
theorem reflong_f (w : World) : Calls Try.prog 20 #[.string ⟨#[102]⟩] w fun e w' => e = .returned (.int .i64 3) ∧ w = w' := by
  go_enter Try.func20, Try.ntmps20
  go_wp2
  refine wp_loop_rounds 2 ?_
  rw [rounds_succ]
  go_wp2_with (go_at_call 22; (first | (refine (refsize_f _).mono ?_)); rintro e w1 ⟨rfl, rfl⟩)
  rw [rounds_succ]
  go_wp2_with (go_at_call 22; (first | (refine (refsize_f _).mono ?_)); rintro e w1 ⟨rfl, rfl⟩)
  go_ret
  exact ⟨rfl, rfl⟩
theorem reflong_m (w : World) : Calls Try.prog 20 #[.string ⟨#[109]⟩] w fun e w' => e = .returned (.int .i64 3) ∧ w = w' := by
  go_enter Try.func20, Try.ntmps20
  go_wp2
  refine wp_loop_rounds 2 ?_
  rw [rounds_succ]
  go_wp2_with (go_at_call 22; (first | (refine (refsize_m _).mono ?_)); rintro e w1 ⟨rfl, rfl⟩)
  rw [rounds_succ]
  go_wp2_with (go_at_call 22; (first | (refine (refsize_m _).mono ?_)); rintro e w1 ⟨rfl, rfl⟩)
  go_ret
  exact ⟨rfl, rfl⟩
theorem reflong_c (w : World) : Calls Try.prog 20 #[.string ⟨#[99]⟩] w fun e w' => e = .returned (.int .i64 3) ∧ w = w' := by
  go_enter Try.func20, Try.ntmps20
  go_wp2
  refine wp_loop_rounds 2 ?_
  rw [rounds_succ]
  go_wp2_with (go_at_call 22; (first | (refine (refsize_c _).mono ?_)); rintro e w1 ⟨rfl, rfl⟩)
  rw [rounds_succ]
  go_wp2_with (go_at_call 22; (first | (refine (refsize_c _).mono ?_)); rintro e w1 ⟨rfl, rfl⟩)
  go_ret
  exact ⟨rfl, rfl⟩
theorem reflong_i (w : World) : Calls Try.prog 20 #[.string ⟨#[105]⟩] w fun e w' => e = .returned (.int .i64 5) ∧ w = w' := by
  go_enter Try.func20, Try.ntmps20
  go_wp2
  refine wp_loop_rounds 2 ?_
  rw [rounds_succ]
  go_wp2_with (go_at_call 22; (first | (refine (refsize_i _).mono ?_)); rintro e w1 ⟨rfl, rfl⟩)
  rw [rounds_succ]
  go_wp2_with (go_at_call 22; (first | (refine (refsize_i _).mono ?_)); rintro e w1 ⟨rfl, rfl⟩)
  go_ret
  exact ⟨rfl, rfl⟩
theorem reflong_ub (w : World) : Calls Try.prog 20 #[.string ⟨#[117, 98]⟩] w fun e w' => e = .returned (.int .i64 3) ∧ w = w' := by
  go_enter Try.func20, Try.ntmps20
  go_wp2
  refine wp_loop_rounds 3 ?_
  rw [rounds_succ]
  go_wp2_with (go_at_call 22; (first | (refine (refsize_u _).mono ?_) | (refine (refsize_b _).mono ?_)); rintro e w1 ⟨rfl, rfl⟩)
  rw [rounds_succ]
  go_wp2_with (go_at_call 22; (first | (refine (refsize_u _).mono ?_) | (refine (refsize_b _).mono ?_)); rintro e w1 ⟨rfl, rfl⟩)
  rw [rounds_succ]
  go_wp2_with (go_at_call 22; (first | (refine (refsize_u _).mono ?_) | (refine (refsize_b _).mono ?_)); rintro e w1 ⟨rfl, rfl⟩)
  go_ret
  exact ⟨rfl, rfl⟩
end Go.Proofs.Ytgicbgeblgfnfaa
