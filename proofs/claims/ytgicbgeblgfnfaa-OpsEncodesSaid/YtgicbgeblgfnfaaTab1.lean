/-
  The walks of ops.table at single codes.
-/
import Derived.Test.YtgicbgeblgfnfaaKit
import Derived.Test.YtgicbgeblgfnfaaPure
set_option maxRecDepth 100000
set_option maxHeartbeats 4000000
set_option linter.unusedSimpArgs false
set_option linter.unusedVariables false
namespace Go.Proofs.Ytgicbgeblgfnfaa
open Go Go.RowKit
theorem idxa1 (w : World) (k : IntKind) (cs : Array Value) (x : Int) (h0 : 0 ≤ x) (hx : x < (7 : Nat)) (hs : cs.size = 7) : (Instr.index 60 (.agg cs) (.int k x)).run Try.prog w = .ok (cs.getD x.toNat undef) w :=
  run_index_arr (n := 7) Try.underlying60 Try.underlying9 rfl info_string w k cs x h0 hx hs
theorem idxb1 (w : World) (k : IntKind) (cs : Array Value) (x : Int) (h0 : 0 ≤ x) (hx : x < (15 : Nat)) (hs : cs.size = 15) : (Instr.index 61 (.agg cs) (.int k x)).run Try.prog w = .ok (cs.getD x.toNat undef) w :=
  run_index_arr (n := 15) Try.underlying61 Try.underlying9 rfl info_string w k cs x h0 hx hs
attribute [local go_sem] idxa1 idxb1
theorem table_1 (w : World) : Calls Try.prog 18 #[.int .i64 1] w fun e w' => e = .returned (.agg #[.string ⟨(rowOf 1).1.toArray⟩, .string ⟨(rowOf 1).2.toArray⟩]) ∧ Below w.heap.size w w' := by
  rw [rowOf_1]
  go_enter Try.func18, Try.ntmps18
  go_wp2
  refine bodyPost_ret (v := .agg #[.string ⟨#[97, 99, 111, 110, 115, 116, 95, 110, 117, 108, 108]⟩, .string ⟨#[]⟩]) ?_ rfl ⟨rfl, ?_⟩
  · simp [results, Try.results18, go_sem] <;> rfl
  · repeat' (first | exact Below.refl _ _ | refine Below.drew ?_ | refine Below.alloc ?_ ?_ _ | refine Below.setCell ?_ ?_ _ | (simp; done) | (simp; omega))
theorem table_4 (w : World) : Calls Try.prog 18 #[.int .i64 4] w fun e w' => e = .returned (.agg #[.string ⟨(rowOf 4).1.toArray⟩, .string ⟨(rowOf 4).2.toArray⟩]) ∧ Below w.heap.size w w' := by
  rw [rowOf_4]
  go_enter Try.func18, Try.ntmps18
  go_wp2
  refine bodyPost_ret (v := .agg #[.string ⟨#[105, 99, 111, 110, 115, 116, 95, 49]⟩, .string ⟨#[]⟩]) ?_ rfl ⟨rfl, ?_⟩
  · simp [results, Try.results18, go_sem] <;> rfl
  · repeat' (first | exact Below.refl _ _ | refine Below.drew ?_ | refine Below.alloc ?_ ?_ _ | refine Below.setCell ?_ ?_ _ | (simp; done) | (simp; omega))
theorem table_7 (w : World) : Calls Try.prog 18 #[.int .i64 7] w fun e w' => e = .returned (.agg #[.string ⟨(rowOf 7).1.toArray⟩, .string ⟨(rowOf 7).2.toArray⟩]) ∧ Below w.heap.size w w' := by
  rw [rowOf_7]
  go_enter Try.func18, Try.ntmps18
  go_wp2
  refine bodyPost_ret (v := .agg #[.string ⟨#[105, 99, 111, 110, 115, 116, 95, 52]⟩, .string ⟨#[]⟩]) ?_ rfl ⟨rfl, ?_⟩
  · simp [results, Try.results18, go_sem] <;> rfl
  · repeat' (first | exact Below.refl _ _ | refine Below.drew ?_ | refine Below.alloc ?_ ?_ _ | refine Below.setCell ?_ ?_ _ | (simp; done) | (simp; omega))
theorem table_17 (w : World) : Calls Try.prog 18 #[.int .i64 17] w fun e w' => e = .returned (.agg #[.string ⟨(rowOf 17).1.toArray⟩, .string ⟨(rowOf 17).2.toArray⟩]) ∧ Below w.heap.size w w' := by
  rw [rowOf_17]
  go_enter Try.func18, Try.ntmps18
  go_wp2
  refine bodyPost_ret (v := .agg #[.string ⟨#[115, 105, 112, 117, 115, 104]⟩, .string ⟨#[115]⟩]) ?_ rfl ⟨rfl, ?_⟩
  · simp [results, Try.results18, go_sem] <;> rfl
  · repeat' (first | exact Below.refl _ _ | refine Below.drew ?_ | refine Below.alloc ?_ ?_ _ | refine Below.setCell ?_ ?_ _ | (simp; done) | (simp; omega))
theorem table_25 (w : World) : Calls Try.prog 18 #[.int .i64 25] w fun e w' => e = .returned (.agg #[.string ⟨(rowOf 25).1.toArray⟩, .string ⟨(rowOf 25).2.toArray⟩]) ∧ Below w.heap.size w w' := by
  rw [rowOf_25]
  go_enter Try.func18, Try.ntmps18
  go_wp2
  refine bodyPost_ret (v := .agg #[.string ⟨#[97, 108, 111, 97, 100]⟩, .string ⟨#[117]⟩]) ?_ rfl ⟨rfl, ?_⟩
  · simp [results, Try.results18, go_sem] <;> rfl
  · repeat' (first | exact Below.refl _ _ | refine Below.drew ?_ | refine Below.alloc ?_ ?_ _ | refine Below.setCell ?_ ?_ _ | (simp; done) | (simp; omega))
theorem table_28 (w : World) : Calls Try.prog 18 #[.int .i64 28] w fun e w' => e = .returned (.agg #[.string ⟨(rowOf 28).1.toArray⟩, .string ⟨(rowOf 28).2.toArray⟩]) ∧ Below w.heap.size w w' := by
  rw [rowOf_28]
  go_enter Try.func18, Try.ntmps18
  go_wp2
  refine bodyPost_ret (v := .agg #[.string ⟨#[105, 108, 111, 97, 100, 95, 50]⟩, .string ⟨#[]⟩]) ?_ rfl ⟨rfl, ?_⟩
  · simp [results, Try.results18, go_sem] <;> rfl
  · repeat' (first | exact Below.refl _ _ | refine Below.drew ?_ | refine Below.alloc ?_ ?_ _ | refine Below.setCell ?_ ?_ _ | (simp; done) | (simp; omega))
theorem table_43 (w : World) : Calls Try.prog 18 #[.int .i64 43] w fun e w' => e = .returned (.agg #[.string ⟨(rowOf 43).1.toArray⟩, .string ⟨(rowOf 43).2.toArray⟩]) ∧ Below w.heap.size w w' := by
  rw [rowOf_43]
  go_enter Try.func18, Try.ntmps18
  go_wp2
  refine bodyPost_ret (v := .agg #[.string ⟨#[97, 108, 111, 97, 100, 95, 49]⟩, .string ⟨#[]⟩]) ?_ rfl ⟨rfl, ?_⟩
  · simp [results, Try.results18, go_sem] <;> rfl
  · repeat' (first | exact Below.refl _ _ | refine Below.drew ?_ | refine Below.alloc ?_ ?_ _ | refine Below.setCell ?_ ?_ _ | (simp; done) | (simp; omega))
theorem table_54 (w : World) : Calls Try.prog 18 #[.int .i64 54] w fun e w' => e = .returned (.agg #[.string ⟨(rowOf 54).1.toArray⟩, .string ⟨(rowOf 54).2.toArray⟩]) ∧ Below w.heap.size w w' := by
  rw [rowOf_54]
  go_enter Try.func18, Try.ntmps18
  go_wp2
  refine bodyPost_ret (v := .agg #[.string ⟨#[105, 115, 116, 111, 114, 101]⟩, .string ⟨#[117]⟩]) ?_ rfl ⟨rfl, ?_⟩
  · simp [results, Try.results18, go_sem] <;> rfl
  · repeat' (first | exact Below.refl _ _ | refine Below.drew ?_ | refine Below.alloc ?_ ?_ _ | refine Below.setCell ?_ ?_ _ | (simp; done) | (simp; omega))
theorem table_60 (w : World) : Calls Try.prog 18 #[.int .i64 60] w fun e w' => e = .returned (.agg #[.string ⟨(rowOf 60).1.toArray⟩, .string ⟨(rowOf 60).2.toArray⟩]) ∧ Below w.heap.size w w' := by
  rw [rowOf_60]
  go_enter Try.func18, Try.ntmps18
  go_wp2
  refine bodyPost_ret (v := .agg #[.string ⟨#[105, 115, 116, 111, 114, 101, 95, 49]⟩, .string ⟨#[]⟩]) ?_ rfl ⟨rfl, ?_⟩
  · simp [results, Try.results18, go_sem] <;> rfl
  · repeat' (first | exact Below.refl _ _ | refine Below.drew ?_ | refine Below.alloc ?_ ?_ _ | refine Below.setCell ?_ ?_ _ | (simp; done) | (simp; omega))
theorem table_75 (w : World) : Calls Try.prog 18 #[.int .i64 75] w fun e w' => e = .returned (.agg #[.string ⟨(rowOf 75).1.toArray⟩, .string ⟨(rowOf 75).2.toArray⟩]) ∧ Below w.heap.size w w' := by
  rw [rowOf_75]
  go_enter Try.func18, Try.ntmps18
  go_wp2
  refine bodyPost_ret (v := .agg #[.string ⟨#[97, 115, 116, 111, 114, 101, 95, 48]⟩, .string ⟨#[]⟩]) ?_ rfl ⟨rfl, ?_⟩
  · simp [results, Try.results18, go_sem] <;> rfl
  · repeat' (first | exact Below.refl _ _ | refine Below.drew ?_ | refine Below.alloc ?_ ?_ _ | refine Below.setCell ?_ ?_ _ | (simp; done) | (simp; omega))
theorem table_78 (w : World) : Calls Try.prog 18 #[.int .i64 78] w fun e w' => e = .returned (.agg #[.string ⟨(rowOf 78).1.toArray⟩, .string ⟨(rowOf 78).2.toArray⟩]) ∧ Below w.heap.size w w' := by
  rw [rowOf_78]
  go_enter Try.func18, Try.ntmps18
  go_wp2
  refine bodyPost_ret (v := .agg #[.string ⟨#[97, 115, 116, 111, 114, 101, 95, 51]⟩, .string ⟨#[]⟩]) ?_ rfl ⟨rfl, ?_⟩
  · simp [results, Try.results18, go_sem] <;> rfl
  · repeat' (first | exact Below.refl _ _ | refine Below.drew ?_ | refine Below.alloc ?_ ?_ _ | refine Below.setCell ?_ ?_ _ | (simp; done) | (simp; omega))
theorem table_155 (w : World) : Calls Try.prog 18 #[.int .i64 155] w fun e w' => e = .returned (.agg #[.string ⟨(rowOf 155).1.toArray⟩, .string ⟨(rowOf 155).2.toArray⟩]) ∧ Below w.heap.size w w' := by
  rw [rowOf_155]
  go_enter Try.func18, Try.ntmps18
  go_wp2
  refine bodyPost_ret (v := .agg #[.string ⟨#[105, 102, 108, 116]⟩, .string ⟨#[106]⟩]) ?_ rfl ⟨rfl, ?_⟩
  · simp [results, Try.results18, go_sem] <;> rfl
  · repeat' (first | exact Below.refl _ _ | refine Below.drew ?_ | refine Below.alloc ?_ ?_ _ | refine Below.setCell ?_ ?_ _ | (simp; done) | (simp; omega))
theorem table_158 (w : World) : Calls Try.prog 18 #[.int .i64 158] w fun e w' => e = .returned (.agg #[.string ⟨(rowOf 158).1.toArray⟩, .string ⟨(rowOf 158).2.toArray⟩]) ∧ Below w.heap.size w w' := by
  rw [rowOf_158]
  go_enter Try.func18, Try.ntmps18
  go_wp2
  refine bodyPost_ret (v := .agg #[.string ⟨#[105, 102, 108, 101]⟩, .string ⟨#[106]⟩]) ?_ rfl ⟨rfl, ?_⟩
  · simp [results, Try.results18, go_sem] <;> rfl
  · repeat' (first | exact Below.refl _ _ | refine Below.drew ?_ | refine Below.alloc ?_ ?_ _ | refine Below.setCell ?_ ?_ _ | (simp; done) | (simp; omega))
theorem table_161 (w : World) : Calls Try.prog 18 #[.int .i64 161] w fun e w' => e = .returned (.agg #[.string ⟨(rowOf 161).1.toArray⟩, .string ⟨(rowOf 161).2.toArray⟩]) ∧ Below w.heap.size w w' := by
  rw [rowOf_161]
  go_enter Try.func18, Try.ntmps18
  go_wp2
  refine bodyPost_ret (v := .agg #[.string ⟨#[105, 102, 95, 105, 99, 109, 112, 108, 116]⟩, .string ⟨#[106]⟩]) ?_ rfl ⟨rfl, ?_⟩
  · simp [results, Try.results18, go_sem] <;> rfl
  · repeat' (first | exact Below.refl _ _ | refine Below.drew ?_ | refine Below.alloc ?_ ?_ _ | refine Below.setCell ?_ ?_ _ | (simp; done) | (simp; omega))
theorem table_164 (w : World) : Calls Try.prog 18 #[.int .i64 164] w fun e w' => e = .returned (.agg #[.string ⟨(rowOf 164).1.toArray⟩, .string ⟨(rowOf 164).2.toArray⟩]) ∧ Below w.heap.size w w' := by
  rw [rowOf_164]
  go_enter Try.func18, Try.ntmps18
  go_wp2
  refine bodyPost_ret (v := .agg #[.string ⟨#[105, 102, 95, 105, 99, 109, 112, 108, 101]⟩, .string ⟨#[106]⟩]) ?_ rfl ⟨rfl, ?_⟩
  · simp [results, Try.results18, go_sem] <;> rfl
  · repeat' (first | exact Below.refl _ _ | refine Below.drew ?_ | refine Below.alloc ?_ ?_ _ | refine Below.setCell ?_ ?_ _ | (simp; done) | (simp; omega))
theorem table_167 (w : World) : Calls Try.prog 18 #[.int .i64 167] w fun e w' => e = .returned (.agg #[.string ⟨(rowOf 167).1.toArray⟩, .string ⟨(rowOf 167).2.toArray⟩]) ∧ Below w.heap.size w w' := by
  rw [rowOf_167]
  go_enter Try.func18, Try.ntmps18
  go_wp2
  refine bodyPost_ret (v := .agg #[.string ⟨#[103, 111, 116, 111]⟩, .string ⟨#[106]⟩]) ?_ rfl ⟨rfl, ?_⟩
  · simp [results, Try.results18, go_sem] <;> rfl
  · repeat' (first | exact Below.refl _ _ | refine Below.drew ?_ | refine Below.alloc ?_ ?_ _ | refine Below.setCell ?_ ?_ _ | (simp; done) | (simp; omega))
end Go.Proofs.Ytgicbgeblgfnfaa
