/-
  The walks of ops.table at single codes.
-/
import Derived.Test.YtgicbgeblgfnfaaKit
import Derived.Test.YtgicbgeblgfnfaaPure
set_option maxRecDepth 100000
set_option maxHeartbeats 4000000
set_option linter.unusedSimpArgs false
set_option linter.unusedVariables false
namespace Go.Proofs.Ytgicbgeblgfnfaa
open Go Go.RowKit
theorem idxa2 (w : World) (k : IntKind) (cs : Array Value) (x : Int) (h0 : 0 ≤ x) (hx : x < (7 : Nat)) (hs : cs.size = 7) : (Instr.index 60 (.agg cs) (.int k x)).run Try.prog w = .ok (cs.getD x.toNat undef) w :=
  run_index_arr (n := 7) Try.underlying60 Try.underlying9 rfl info_string w k cs x h0 hx hs
theorem idxb2 (w : World) (k : IntKind) (cs : Array Value) (x : Int) (h0 : 0 ≤ x) (hx : x < (15 : Nat)) (hs : cs.size = 15) : (Instr.index 61 (.agg cs) (.int k x)).run Try.prog w = .ok (cs.getD x.toNat undef) w :=
  run_index_arr (n := 15) Try.underlying61 Try.underlying9 rfl info_string w k cs x h0 hx hs
attribute [local go_sem] idxa2 idxb2
theorem table_2 (w : World) : Calls Try.prog 18 #[.int .i64 2] w fun e w' => e = .returned (.agg #[.string ⟨(rowOf 2).1.toArray⟩, .string ⟨(rowOf 2).2.toArray⟩]) ∧ Below w.heap.size w w' := by
  rw [rowOf_2]
  go_enter Try.func18, Try.ntmps18
  go_wp2
  refine bodyPost_ret (v := .agg #[.string ⟨#[105, 99, 111, 110, 115, 116, 95, 109, 49]⟩, .string ⟨#[]⟩]) ?_ rfl ⟨rfl, ?_⟩
  · simp [results, Try.results18, go_sem] <;> rfl
  · repeat' (first | exact Below.refl _ _ | refine Below.drew ?_ | refine Below.alloc ?_ ?_ _ | refine Below.setCell ?_ ?_ _ | (simp; done) | (simp; omega))
theorem table_5 (w : World) : Calls Try.prog 18 #[.int .i64 5] w fun e w' => e = .returned (.agg #[.string ⟨(rowOf 5).1.toArray⟩, .string ⟨(rowOf 5).2.toArray⟩]) ∧ Below w.heap.size w w' := by
  rw [rowOf_5]
  go_enter Try.func18, Try.ntmps18
  go_wp2
  refine bodyPost_ret (v := .agg #[.string ⟨#[105, 99, 111, 110, 115, 116, 95, 50]⟩, .string ⟨#[]⟩]) ?_ rfl ⟨rfl, ?_⟩
  · simp [results, Try.results18, go_sem] <;> rfl
  · repeat' (first | exact Below.refl _ _ | refine Below.drew ?_ | refine Below.alloc ?_ ?_ _ | refine Below.setCell ?_ ?_ _ | (simp; done) | (simp; omega))
theorem table_8 (w : World) : Calls Try.prog 18 #[.int .i64 8] w fun e w' => e = .returned (.agg #[.string ⟨(rowOf 8).1.toArray⟩, .string ⟨(rowOf 8).2.toArray⟩]) ∧ Below w.heap.size w w' := by
  rw [rowOf_8]
  go_enter Try.func18, Try.ntmps18
  go_wp2
  refine bodyPost_ret (v := .agg #[.string ⟨#[105, 99, 111, 110, 115, 116, 95, 53]⟩, .string ⟨#[]⟩]) ?_ rfl ⟨rfl, ?_⟩
  · simp [results, Try.results18, go_sem] <;> rfl
  · repeat' (first | exact Below.refl _ _ | refine Below.drew ?_ | refine Below.alloc ?_ ?_ _ | refine Below.setCell ?_ ?_ _ | (simp; done) | (simp; omega))
theorem table_18 (w : World) : Calls Try.prog 18 #[.int .i64 18] w fun e w' => e = .returned (.agg #[.string ⟨(rowOf 18).1.toArray⟩, .string ⟨(rowOf 18).2.toArray⟩]) ∧ Below w.heap.size w w' := by
  rw [rowOf_18]
  go_enter Try.func18, Try.ntmps18
  go_wp2
  refine bodyPost_ret (v := .agg #[.string ⟨#[108, 100, 99]⟩, .string ⟨#[117]⟩]) ?_ rfl ⟨rfl, ?_⟩
  · simp [results, Try.results18, go_sem] <;> rfl
  · repeat' (first | exact Below.refl _ _ | refine Below.drew ?_ | refine Below.alloc ?_ ?_ _ | refine Below.setCell ?_ ?_ _ | (simp; done) | (simp; omega))
theorem table_26 (w : World) : Calls Try.prog 18 #[.int .i64 26] w fun e w' => e = .returned (.agg #[.string ⟨(rowOf 26).1.toArray⟩, .string ⟨(rowOf 26).2.toArray⟩]) ∧ Below w.heap.size w w' := by
  rw [rowOf_26]
  go_enter Try.func18, Try.ntmps18
  go_wp2
  refine bodyPost_ret (v := .agg #[.string ⟨#[105, 108, 111, 97, 100, 95, 48]⟩, .string ⟨#[]⟩]) ?_ rfl ⟨rfl, ?_⟩
  · simp [results, Try.results18, go_sem] <;> rfl
  · repeat' (first | exact Below.refl _ _ | refine Below.drew ?_ | refine Below.alloc ?_ ?_ _ | refine Below.setCell ?_ ?_ _ | (simp; done) | (simp; omega))
theorem table_29 (w : World) : Calls Try.prog 18 #[.int .i64 29] w fun e w' => e = .returned (.agg #[.string ⟨(rowOf 29).1.toArray⟩, .string ⟨(rowOf 29).2.toArray⟩]) ∧ Below w.heap.size w w' := by
  rw [rowOf_29]
  go_enter Try.func18, Try.ntmps18
  go_wp2
  refine bodyPost_ret (v := .agg #[.string ⟨#[105, 108, 111, 97, 100, 95, 51]⟩, .string ⟨#[]⟩]) ?_ rfl ⟨rfl, ?_⟩
  · simp [results, Try.results18, go_sem] <;> rfl
  · repeat' (first | exact Below.refl _ _ | refine Below.drew ?_ | refine Below.alloc ?_ ?_ _ | refine Below.setCell ?_ ?_ _ | (simp; done) | (simp; omega))
theorem table_44 (w : World) : Calls Try.prog 18 #[.int .i64 44] w fun e w' => e = .returned (.agg #[.string ⟨(rowOf 44).1.toArray⟩, .string ⟨(rowOf 44).2.toArray⟩]) ∧ Below w.heap.size w w' := by
  rw [rowOf_44]
  go_enter Try.func18, Try.ntmps18
  go_wp2
  refine bodyPost_ret (v := .agg #[.string ⟨#[97, 108, 111, 97, 100, 95, 50]⟩, .string ⟨#[]⟩]) ?_ rfl ⟨rfl, ?_⟩
  · simp [results, Try.results18, go_sem] <;> rfl
  · repeat' (first | exact Below.refl _ _ | refine Below.drew ?_ | refine Below.alloc ?_ ?_ _ | refine Below.setCell ?_ ?_ _ | (simp; done) | (simp; omega))
theorem table_58 (w : World) : Calls Try.prog 18 #[.int .i64 58] w fun e w' => e = .returned (.agg #[.string ⟨(rowOf 58).1.toArray⟩, .string ⟨(rowOf 58).2.toArray⟩]) ∧ Below w.heap.size w w' := by
  rw [rowOf_58]
  go_enter Try.func18, Try.ntmps18
  go_wp2
  refine bodyPost_ret (v := .agg #[.string ⟨#[97, 115, 116, 111, 114, 101]⟩, .string ⟨#[117]⟩]) ?_ rfl ⟨rfl, ?_⟩
  · simp [results, Try.results18, go_sem] <;> rfl
  · repeat' (first | exact Below.refl _ _ | refine Below.drew ?_ | refine Below.alloc ?_ ?_ _ | refine Below.setCell ?_ ?_ _ | (simp; done) | (simp; omega))
theorem table_61 (w : World) : Calls Try.prog 18 #[.int .i64 61] w fun e w' => e = .returned (.agg #[.string ⟨(rowOf 61).1.toArray⟩, .string ⟨(rowOf 61).2.toArray⟩]) ∧ Below w.heap.size w w' := by
  rw [rowOf_61]
  go_enter Try.func18, Try.ntmps18
  go_wp2
  refine bodyPost_ret (v := .agg #[.string ⟨#[105, 115, 116, 111, 114, 101, 95, 50]⟩, .string ⟨#[]⟩]) ?_ rfl ⟨rfl, ?_⟩
  · simp [results, Try.results18, go_sem] <;> rfl
  · repeat' (first | exact Below.refl _ _ | refine Below.drew ?_ | refine Below.alloc ?_ ?_ _ | refine Below.setCell ?_ ?_ _ | (simp; done) | (simp; omega))
theorem table_76 (w : World) : Calls Try.prog 18 #[.int .i64 76] w fun e w' => e = .returned (.agg #[.string ⟨(rowOf 76).1.toArray⟩, .string ⟨(rowOf 76).2.toArray⟩]) ∧ Below w.heap.size w w' := by
  rw [rowOf_76]
  go_enter Try.func18, Try.ntmps18
  go_wp2
  refine bodyPost_ret (v := .agg #[.string ⟨#[97, 115, 116, 111, 114, 101, 95, 49]⟩, .string ⟨#[]⟩]) ?_ rfl ⟨rfl, ?_⟩
  · simp [results, Try.results18, go_sem] <;> rfl
  · repeat' (first | exact Below.refl _ _ | refine Below.drew ?_ | refine Below.alloc ?_ ?_ _ | refine Below.setCell ?_ ?_ _ | (simp; done) | (simp; omega))
theorem table_153 (w : World) : Calls Try.prog 18 #[.int .i64 153] w fun e w' => e = .returned (.agg #[.string ⟨(rowOf 153).1.toArray⟩, .string ⟨(rowOf 153).2.toArray⟩]) ∧ Below w.heap.size w w' := by
  rw [rowOf_153]
  go_enter Try.func18, Try.ntmps18
  go_wp2
  refine bodyPost_ret (v := .agg #[.string ⟨#[105, 102, 101, 113]⟩, .string ⟨#[106]⟩]) ?_ rfl ⟨rfl, ?_⟩
  · simp [results, Try.results18, go_sem] <;> rfl
  · repeat' (first | exact Below.refl _ _ | refine Below.drew ?_ | refine Below.alloc ?_ ?_ _ | refine Below.setCell ?_ ?_ _ | (simp; done) | (simp; omega))
theorem table_156 (w : World) : Calls Try.prog 18 #[.int .i64 156] w fun e w' => e = .returned (.agg #[.string ⟨(rowOf 156).1.toArray⟩, .string ⟨(rowOf 156).2.toArray⟩]) ∧ Below w.heap.size w w' := by
  rw [rowOf_156]
  go_enter Try.func18, Try.ntmps18
  go_wp2
  refine bodyPost_ret (v := .agg #[.string ⟨#[105, 102, 103, 101]⟩, .string ⟨#[106]⟩]) ?_ rfl ⟨rfl, ?_⟩
  · simp [results, Try.results18, go_sem] <;> rfl
  · repeat' (first | exact Below.refl _ _ | refine Below.drew ?_ | refine Below.alloc ?_ ?_ _ | refine Below.setCell ?_ ?_ _ | (simp; done) | (simp; omega))
theorem table_159 (w : World) : Calls Try.prog 18 #[.int .i64 159] w fun e w' => e = .returned (.agg #[.string ⟨(rowOf 159).1.toArray⟩, .string ⟨(rowOf 159).2.toArray⟩]) ∧ Below w.heap.size w w' := by
  rw [rowOf_159]
  go_enter Try.func18, Try.ntmps18
  go_wp2
  refine bodyPost_ret (v := .agg #[.string ⟨#[105, 102, 95, 105, 99, 109, 112, 101, 113]⟩, .string ⟨#[106]⟩]) ?_ rfl ⟨rfl, ?_⟩
  · simp [results, Try.results18, go_sem] <;> rfl
  · repeat' (first | exact Below.refl _ _ | refine Below.drew ?_ | refine Below.alloc ?_ ?_ _ | refine Below.setCell ?_ ?_ _ | (simp; done) | (simp; omega))
theorem table_162 (w : World) : Calls Try.prog 18 #[.int .i64 162] w fun e w' => e = .returned (.agg #[.string ⟨(rowOf 162).1.toArray⟩, .string ⟨(rowOf 162).2.toArray⟩]) ∧ Below w.heap.size w w' := by
  rw [rowOf_162]
  go_enter Try.func18, Try.ntmps18
  go_wp2
  refine bodyPost_ret (v := .agg #[.string ⟨#[105, 102, 95, 105, 99, 109, 112, 103, 101]⟩, .string ⟨#[106]⟩]) ?_ rfl ⟨rfl, ?_⟩
  · simp [results, Try.results18, go_sem] <;> rfl
  · repeat' (first | exact Below.refl _ _ | refine Below.drew ?_ | refine Below.alloc ?_ ?_ _ | refine Below.setCell ?_ ?_ _ | (simp; done) | (simp; omega))
theorem table_165 (w : World) : Calls Try.prog 18 #[.int .i64 165] w fun e w' => e = .returned (.agg #[.string ⟨(rowOf 165).1.toArray⟩, .string ⟨(rowOf 165).2.toArray⟩]) ∧ Below w.heap.size w w' := by
  rw [rowOf_165]
  go_enter Try.func18, Try.ntmps18
  go_wp2
  refine bodyPost_ret (v := .agg #[.string ⟨#[105, 102, 95, 97, 99, 109, 112, 101, 113]⟩, .string ⟨#[106]⟩]) ?_ rfl ⟨rfl, ?_⟩
  · simp [results, Try.results18, go_sem] <;> rfl
  · repeat' (first | exact Below.refl _ _ | refine Below.drew ?_ | refine Below.alloc ?_ ?_ _ | refine Below.setCell ?_ ?_ _ | (simp; done) | (simp; omega))
end Go.Proofs.Ytgicbgeblgfnfaa
