/-
  The walks of ops.table at single codes.
-/
import Derived.Test.YtgicbgeblgfnfaaKit
import Derived.Test.YtgicbgeblgfnfaaPure
set_option maxRecDepth 100000
set_option maxHeartbeats 4000000
set_option linter.unusedSimpArgs false
set_option linter.unusedVariables false
namespace Go.Proofs.Ytgicbgeblgfnfaa
open Go Go.RowKit
theorem idxa0 (w : World) (k : IntKind) (cs : Array Value) (x : Int) (h0 : 0 ≤ x) (hx : x < (7 : Nat)) (hs : cs.size = 7) : (Instr.index 60 (.agg cs) (.int k x)).run Try.prog w = .ok (cs.getD x.toNat undef) w :=
  run_index_arr (n := 7) Try.underlying60 Try.underlying9 rfl info_string w k cs x h0 hx hs
theorem idxb0 (w : World) (k : IntKind) (cs : Array Value) (x : Int) (h0 : 0 ≤ x) (hx : x < (15 : Nat)) (hs : cs.size = 15) : (Instr.index 61 (.agg cs) (.int k x)).run Try.prog w = .ok (cs.getD x.toNat undef) w :=
  run_index_arr (n := 15) Try.underlying61 Try.underlying9 rfl info_string w k cs x h0 hx hs
attribute [local go_sem] idxa0 idxb0
theorem table_0 (w : World) : Calls Try.prog 18 #[.int .i64 0] w fun e w' => e = .returned (.agg #[.string ⟨(rowOf 0).1.toArray⟩, .string ⟨(rowOf 0).2.toArray⟩]) ∧ Below w.heap.size w w' := by
  rw [rowOf_0]
  go_enter Try.func18, Try.ntmps18
  go_wp2
  refine bodyPost_ret (v := .agg #[.string ⟨#[110, 111, 112]⟩, .string ⟨#[]⟩]) ?_ rfl ⟨rfl, ?_⟩
  · simp [results, Try.results18, go_sem] <;> rfl
  · repeat' (first | exact Below.refl _ _ | refine Below.drew ?_ | refine Below.alloc ?_ ?_ _ | refine Below.setCell ?_ ?_ _ | (simp; done) | (simp; omega))
theorem table_3 (w : World) : Calls Try.prog 18 #[.int .i64 3] w fun e w' => e = .returned (.agg #[.string ⟨(rowOf 3).1.toArray⟩, .string ⟨(rowOf 3).2.toArray⟩]) ∧ Below w.heap.size w w' := by
  rw [rowOf_3]
  go_enter Try.func18, Try.ntmps18
  go_wp2
  refine bodyPost_ret (v := .agg #[.string ⟨#[105, 99, 111, 110, 115, 116, 95, 48]⟩, .string ⟨#[]⟩]) ?_ rfl ⟨rfl, ?_⟩
  · simp [results, Try.results18, go_sem] <;> rfl
  · repeat' (first | exact Below.refl _ _ | refine Below.drew ?_ | refine Below.alloc ?_ ?_ _ | refine Below.setCell ?_ ?_ _ | (simp; done) | (simp; omega))
theorem table_6 (w : World) : Calls Try.prog 18 #[.int .i64 6] w fun e w' => e = .returned (.agg #[.string ⟨(rowOf 6).1.toArray⟩, .string ⟨(rowOf 6).2.toArray⟩]) ∧ Below w.heap.size w w' := by
  rw [rowOf_6]
  go_enter Try.func18, Try.ntmps18
  go_wp2
  refine bodyPost_ret (v := .agg #[.string ⟨#[105, 99, 111, 110, 115, 116, 95, 51]⟩, .string ⟨#[]⟩]) ?_ rfl ⟨rfl, ?_⟩
  · simp [results, Try.results18, go_sem] <;> rfl
  · repeat' (first | exact Below.refl _ _ | refine Below.drew ?_ | refine Below.alloc ?_ ?_ _ | refine Below.setCell ?_ ?_ _ | (simp; done) | (simp; omega))
theorem table_16 (w : World) : Calls Try.prog 18 #[.int .i64 16] w fun e w' => e = .returned (.agg #[.string ⟨(rowOf 16).1.toArray⟩, .string ⟨(rowOf 16).2.toArray⟩]) ∧ Below w.heap.size w w' := by
  rw [rowOf_16]
  go_enter Try.func18, Try.ntmps18
  go_wp2
  refine bodyPost_ret (v := .agg #[.string ⟨#[98, 105, 112, 117, 115, 104]⟩, .string ⟨#[98]⟩]) ?_ rfl ⟨rfl, ?_⟩
  · simp [results, Try.results18, go_sem] <;> rfl
  · repeat' (first | exact Below.refl _ _ | refine Below.drew ?_ | refine Below.alloc ?_ ?_ _ | refine Below.setCell ?_ ?_ _ | (simp; done) | (simp; omega))
theorem table_21 (w : World) : Calls Try.prog 18 #[.int .i64 21] w fun e w' => e = .returned (.agg #[.string ⟨(rowOf 21).1.toArray⟩, .string ⟨(rowOf 21).2.toArray⟩]) ∧ Below w.heap.size w w' := by
  rw [rowOf_21]
  go_enter Try.func18, Try.ntmps18
  go_wp2
  refine bodyPost_ret (v := .agg #[.string ⟨#[105, 108, 111, 97, 100]⟩, .string ⟨#[117]⟩]) ?_ rfl ⟨rfl, ?_⟩
  · simp [results, Try.results18, go_sem] <;> rfl
  · repeat' (first | exact Below.refl _ _ | refine Below.drew ?_ | refine Below.alloc ?_ ?_ _ | refine Below.setCell ?_ ?_ _ | (simp; done) | (simp; omega))
theorem table_27 (w : World) : Calls Try.prog 18 #[.int .i64 27] w fun e w' => e = .returned (.agg #[.string ⟨(rowOf 27).1.toArray⟩, .string ⟨(rowOf 27).2.toArray⟩]) ∧ Below w.heap.size w w' := by
  rw [rowOf_27]
  go_enter Try.func18, Try.ntmps18
  go_wp2
  refine bodyPost_ret (v := .agg #[.string ⟨#[105, 108, 111, 97, 100, 95, 49]⟩, .string ⟨#[]⟩]) ?_ rfl ⟨rfl, ?_⟩
  · simp [results, Try.results18, go_sem] <;> rfl
  · repeat' (first | exact Below.refl _ _ | refine Below.drew ?_ | refine Below.alloc ?_ ?_ _ | refine Below.setCell ?_ ?_ _ | (simp; done) | (simp; omega))
theorem table_42 (w : World) : Calls Try.prog 18 #[.int .i64 42] w fun e w' => e = .returned (.agg #[.string ⟨(rowOf 42).1.toArray⟩, .string ⟨(rowOf 42).2.toArray⟩]) ∧ Below w.heap.size w w' := by
  rw [rowOf_42]
  go_enter Try.func18, Try.ntmps18
  go_wp2
  refine bodyPost_ret (v := .agg #[.string ⟨#[97, 108, 111, 97, 100, 95, 48]⟩, .string ⟨#[]⟩]) ?_ rfl ⟨rfl, ?_⟩
  · simp [results, Try.results18, go_sem] <;> rfl
  · repeat' (first | exact Below.refl _ _ | refine Below.drew ?_ | refine Below.alloc ?_ ?_ _ | refine Below.setCell ?_ ?_ _ | (simp; done) | (simp; omega))
theorem table_45 (w : World) : Calls Try.prog 18 #[.int .i64 45] w fun e w' => e = .returned (.agg #[.string ⟨(rowOf 45).1.toArray⟩, .string ⟨(rowOf 45).2.toArray⟩]) ∧ Below w.heap.size w w' := by
  rw [rowOf_45]
  go_enter Try.func18, Try.ntmps18
  go_wp2
  refine bodyPost_ret (v := .agg #[.string ⟨#[97, 108, 111, 97, 100, 95, 51]⟩, .string ⟨#[]⟩]) ?_ rfl ⟨rfl, ?_⟩
  · simp [results, Try.results18, go_sem] <;> rfl
  · repeat' (first | exact Below.refl _ _ | refine Below.drew ?_ | refine Below.alloc ?_ ?_ _ | refine Below.setCell ?_ ?_ _ | (simp; done) | (simp; omega))
theorem table_59 (w : World) : Calls Try.prog 18 #[.int .i64 59] w fun e w' => e = .returned (.agg #[.string ⟨(rowOf 59).1.toArray⟩, .string ⟨(rowOf 59).2.toArray⟩]) ∧ Below w.heap.size w w' := by
  rw [rowOf_59]
  go_enter Try.func18, Try.ntmps18
  go_wp2
  refine bodyPost_ret (v := .agg #[.string ⟨#[105, 115, 116, 111, 114, 101, 95, 48]⟩, .string ⟨#[]⟩]) ?_ rfl ⟨rfl, ?_⟩
  · simp [results, Try.results18, go_sem] <;> rfl
  · repeat' (first | exact Below.refl _ _ | refine Below.drew ?_ | refine Below.alloc ?_ ?_ _ | refine Below.setCell ?_ ?_ _ | (simp; done) | (simp; omega))
theorem table_62 (w : World) : Calls Try.prog 18 #[.int .i64 62] w fun e w' => e = .returned (.agg #[.string ⟨(rowOf 62).1.toArray⟩, .string ⟨(rowOf 62).2.toArray⟩]) ∧ Below w.heap.size w w' := by
  rw [rowOf_62]
  go_enter Try.func18, Try.ntmps18
  go_wp2
  refine bodyPost_ret (v := .agg #[.string ⟨#[105, 115, 116, 111, 114, 101, 95, 51]⟩, .string ⟨#[]⟩]) ?_ rfl ⟨rfl, ?_⟩
  · simp [results, Try.results18, go_sem] <;> rfl
  · repeat' (first | exact Below.refl _ _ | refine Below.drew ?_ | refine Below.alloc ?_ ?_ _ | refine Below.setCell ?_ ?_ _ | (simp; done) | (simp; omega))
theorem table_77 (w : World) : Calls Try.prog 18 #[.int .i64 77] w fun e w' => e = .returned (.agg #[.string ⟨(rowOf 77).1.toArray⟩, .string ⟨(rowOf 77).2.toArray⟩]) ∧ Below w.heap.size w w' := by
  rw [rowOf_77]
  go_enter Try.func18, Try.ntmps18
  go_wp2
  refine bodyPost_ret (v := .agg #[.string ⟨#[97, 115, 116, 111, 114, 101, 95, 50]⟩, .string ⟨#[]⟩]) ?_ rfl ⟨rfl, ?_⟩
  · simp [results, Try.results18, go_sem] <;> rfl
  · repeat' (first | exact Below.refl _ _ | refine Below.drew ?_ | refine Below.alloc ?_ ?_ _ | refine Below.setCell ?_ ?_ _ | (simp; done) | (simp; omega))
theorem table_154 (w : World) : Calls Try.prog 18 #[.int .i64 154] w fun e w' => e = .returned (.agg #[.string ⟨(rowOf 154).1.toArray⟩, .string ⟨(rowOf 154).2.toArray⟩]) ∧ Below w.heap.size w w' := by
  rw [rowOf_154]
  go_enter Try.func18, Try.ntmps18
  go_wp2
  refine bodyPost_ret (v := .agg #[.string ⟨#[105, 102, 110, 101]⟩, .string ⟨#[106]⟩]) ?_ rfl ⟨rfl, ?_⟩
  · simp [results, Try.results18, go_sem] <;> rfl
  · repeat' (first | exact Below.refl _ _ | refine Below.drew ?_ | refine Below.alloc ?_ ?_ _ | refine Below.setCell ?_ ?_ _ | (simp; done) | (simp; omega))
theorem table_157 (w : World) : Calls Try.prog 18 #[.int .i64 157] w fun e w' => e = .returned (.agg #[.string ⟨(rowOf 157).1.toArray⟩, .string ⟨(rowOf 157).2.toArray⟩]) ∧ Below w.heap.size w w' := by
  rw [rowOf_157]
  go_enter Try.func18, Try.ntmps18
  go_wp2
  refine bodyPost_ret (v := .agg #[.string ⟨#[105, 102, 103, 116]⟩, .string ⟨#[106]⟩]) ?_ rfl ⟨rfl, ?_⟩
  · simp [results, Try.results18, go_sem] <;> rfl
  · repeat' (first | exact Below.refl _ _ | refine Below.drew ?_ | refine Below.alloc ?_ ?_ _ | refine Below.setCell ?_ ?_ _ | (simp; done) | (simp; omega))
theorem table_160 (w : World) : Calls Try.prog 18 #[.int .i64 160] w fun e w' => e = .returned (.agg #[.string ⟨(rowOf 160).1.toArray⟩, .string ⟨(rowOf 160).2.toArray⟩]) ∧ Below w.heap.size w w' := by
  rw [rowOf_160]
  go_enter Try.func18, Try.ntmps18
  go_wp2
  refine bodyPost_ret (v := .agg #[.string ⟨#[105, 102, 95, 105, 99, 109, 112, 110, 101]⟩, .string ⟨#[106]⟩]) ?_ rfl ⟨rfl, ?_⟩
  · simp [results, Try.results18, go_sem] <;> rfl
  · repeat' (first | exact Below.refl _ _ | refine Below.drew ?_ | refine Below.alloc ?_ ?_ _ | refine Below.setCell ?_ ?_ _ | (simp; done) | (simp; omega))
theorem table_163 (w : World) : Calls Try.prog 18 #[.int .i64 163] w fun e w' => e = .returned (.agg #[.string ⟨(rowOf 163).1.toArray⟩, .string ⟨(rowOf 163).2.toArray⟩]) ∧ Below w.heap.size w w' := by
  rw [rowOf_163]
  go_enter Try.func18, Try.ntmps18
  go_wp2
  refine bodyPost_ret (v := .agg #[.string ⟨#[105, 102, 95, 105, 99, 109, 112, 103, 116]⟩, .string ⟨#[106]⟩]) ?_ rfl ⟨rfl, ?_⟩
  · simp [results, Try.results18, go_sem] <;> rfl
  · repeat' (first | exact Below.refl _ _ | refine Below.drew ?_ | refine Below.alloc ?_ ?_ _ | refine Below.setCell ?_ ?_ _ | (simp; done) | (simp; omega))
theorem table_166 (w : World) : Calls Try.prog 18 #[.int .i64 166] w fun e w' => e = .returned (.agg #[.string ⟨(rowOf 166).1.toArray⟩, .string ⟨(rowOf 166).2.toArray⟩]) ∧ Below w.heap.size w w' := by
  rw [rowOf_166]
  go_enter Try.func18, Try.ntmps18
  go_wp2
  refine bodyPost_ret (v := .agg #[.string ⟨#[105, 102, 95, 97, 99, 109, 112, 110, 101]⟩, .string ⟨#[106]⟩]) ?_ rfl ⟨rfl, ?_⟩
  · simp [results, Try.results18, go_sem] <;> rfl
  · repeat' (first | exact Below.refl _ _ | refine Below.drew ?_ | refine Below.alloc ?_ ?_ _ | refine Below.setCell ?_ ?_ _ | (simp; done) | (simp; omega))
end Go.Proofs.Ytgicbgeblgfnfaa
