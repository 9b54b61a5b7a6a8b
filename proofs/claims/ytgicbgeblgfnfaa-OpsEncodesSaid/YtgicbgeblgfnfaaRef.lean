/-
  The walks of turnstileref6.table, Form and Find.
-/
import Derived.Test.YtgicbgeblgfnfaaKit
import Derived.Test.YtgicbgeblgfnfaaPure
import Derived.Lib.Hide
set_option maxRecDepth 100000
set_option maxHeartbeats 4000000
set_option linter.unusedSimpArgs false
set_option linter.unusedVariables false
namespace Go.Proofs.Ytgicbgeblgfnfaa
open Go Go.RowKit
def tabCells : Array Value := (rowL.flatMap fun r => [Value.int .i64 r.1, Value.string ⟨r.2.1.toArray⟩, Value.string ⟨r.2.2.toArray⟩]).toArray
theorem reftable_run (w : World) :
    Calls Try.prog 23 #[] w fun e w' => e = .returned (.slice (some ⟨w.heap.size, 0, none⟩) 83 83) ∧ w' = w.alloc (.cells tabCells 54) := by
  go_enter Try.func23, Try.ntmps23
  iterate 9 go_step
  apply wp_seq_k; intro K2 hK2
  apply wp_region_lit
  refine wpList_run 0 (.slice (some ⟨w.heap.size, 0, none⟩) 83 83) (w.alloc (.cells tabCells 54)) (by kernel_rfl) ?_
  intro a' h1 h2
  apply hK2
  apply wp_ret
  exact bodyPost_ret (results_tmp rfl _ _ _) h2 ⟨by rw [h1], rfl⟩
/-- The table lies in a block. -/
def TabAt (w : World) (b : Nat) : Prop := ∀ k, k < 83 → w.cell? ⟨b, k * 3, none⟩ = some (.int .i64 (rowAt k).1) ∧ w.cell? ⟨b, k * 3 + 1, none⟩ = some (.string ⟨(rowAt k).2.1.toArray⟩) ∧ w.cell? ⟨b, k * 3 + 2, none⟩ = some (.string ⟨(rowAt k).2.2.toArray⟩)
theorem flat3 {α : Type} (f g h : α → Value) : ∀ (l : List α) (k : Nat), (l.flatMap fun r => [f r, g r, h r])[k * 3]? = l[k]?.map f ∧ (l.flatMap fun r => [f r, g r, h r])[k * 3 + 1]? = l[k]?.map g ∧ (l.flatMap fun r => [f r, g r, h r])[k * 3 + 2]? = l[k]?.map h
  | [], k => by simp
  | x :: l, 0 => by simp
  | x :: l, k + 1 => by
    have ih := flat3 f g h l k
    rw [List.flatMap_cons]
    have e : ∀ j, ([f x, g x, h x] ++ l.flatMap fun r => [f r, g r, h r])[(k + 1) * 3 + j]? = (l.flatMap fun r => [f r, g r, h r])[k * 3 + j]? := fun j => by
      rw [List.getElem?_append_right (by simp; omega)]
      congr 1
      simp
      omega
    have e0 := e 0
    simp only [Nat.add_zero] at e0
    rw [e0, e 1, e 2, List.getElem?_cons_succ]
    exact ih
theorem reftable_any (w : World) :
    Calls Try.prog 23 #[] w fun e w' => e = .returned (.slice (some ⟨w.heap.size, 0, none⟩) 83 83) ∧ TabAt w' w.heap.size ∧ Below w.heap.size w w' := by
  refine (reftable_run w).mono ?_
  rintro e w' ⟨rfl, rfl⟩
  refine ⟨rfl, fun k hk => ?_, (Below.refl _ _).alloc (Nat.le_refl _) _⟩
  have hl : rowL.length = 83 := rfl
  have hr : rowL[k]? = some (rowAt k) := by
    unfold rowAt
    rw [List.getD_eq_getElem?_getD, List.getElem?_eq_getElem (by omega)]
    rfl
  have h3 := flat3 (fun r : Int × List UInt8 × List UInt8 => Value.int .i64 r.1) (fun r => Value.string ⟨r.2.1.toArray⟩) (fun r => Value.string ⟨r.2.2.toArray⟩) rowL k
  rw [hr] at h3
  have hcell : ∀ o, (w.alloc (.cells tabCells 54)).cell? ⟨w.heap.size, o, none⟩ = (rowL.flatMap fun r => [Value.int .i64 r.1, Value.string ⟨r.2.1.toArray⟩, Value.string ⟨r.2.2.toArray⟩])[o]? := fun o => by
    unfold World.cell?
    rw [heap_alloc_new]
    unfold tabCells
    simp only [Option.isSome_none, Bool.false_eq_true, if_false, List.getElem?_toArray]
  rw [hcell, hcell, hcell]
  exact h3
end Go.Proofs.Ytgicbgeblgfnfaa
