/-
  General small laws: the rounds of a range over a string that is known, the iterator in whatever block.
-/
import Derived.Test.YtgicbgeblgfnfaaKit
import Derived.Lib.Hide
import Derived.Lib.OthersKept
set_option linter.unusedSimpArgs false
set_option linter.unusedVariables false
namespace Go.Proofs.Ytgicbgeblgfnfaa
open Go Go.RowKit Lib
theorem iterAt_cell (w : World) (k : Nat) (s : ByteArray) (pos pos' : Nat) (hk : w.heap[k]? = some (.stringIter s pos)) (a : Addr) : (w.iterAt k s pos').cell? a = w.cell? a := by
  by_cases h : a.block = k
  · unfold World.cell?
    rw [h, iterAt_heap w k s pos pos' hk, hk]
  · exact World.cell?_of_block (iterAt_other w k a.block s pos' h)
theorem iterAt_frozen (w : World) (k : Nat) (s : ByteArray) (pos pos' : Nat) (hk : w.heap[k]? = some (.stringIter s pos)) (a : Addr) : (w.iterAt k s pos').frozen? a = w.frozen? a := by
  by_cases h : a.block = k
  · unfold World.frozen?
    rw [h, iterAt_heap w k s pos pos' hk, hk]
  · exact World.frozen?_of_block (iterAt_other w k a.block s pos' h)
/-- A block below another: it is none of the next few, either. -/
theorem far (x n : Nat) (h : x < n) : x < n ∧ x < n + 1 ∧ x < n + 1 + 1 ∧ x < n + 1 + 1 + 1 ∧ ¬ x = n ∧ ¬ x = n + 1 ∧ ¬ x = n + 1 + 1 ∧ ¬ x = n + 1 + 1 + 1 ∧ ¬ n = x ∧ ¬ n + 1 = x ∧ ¬ n + 1 + 1 = x ∧ ¬ n + 1 + 1 + 1 = x := by omega
theorem iter_heap_at (w : World) (k : Nat) (hk : k = w.heap.size) (s : ByteArray) (pos : Nat) : (w.iter s pos).heap[k]? = some (.stringIter s pos) := by
  subst hk
  exact World.iter_heap w s pos
theorem below_iter {B : Nat} {a w : World} (h : Below B a w) (hB : B ≤ w.heap.size) (s : ByteArray) (pos : Nat) : Below B a (w.iter s pos) := h.alloc hB _
/-- A round's 'next' at a letter below 128. -/
theorem wpl_next {P : Program} {W : World} {ops : Array Oper} {rest : List Oper} {o : Oper} {a : Act} {Q : Exit → Act → World → Prop} {x : Operand} (hop : o.op = .next x true) (hgd : o.guard = none)
    {k : Nat} {s : ByteArray} {pos : Nat} (hx : a.eval x = .pointer (some ⟨k, 0, none⟩)) (hk : W.heap[k]? = some (.stringIter s pos)) (c : Nat) (hc : s.data.toList[pos]? = some (UInt8.ofNat c)) (h1 : c < 128)
    (h : ∀ W' : World, W'.heap[k]? = some (.stringIter s (pos + 1)) → (∀ b, W'.cell? b = W.cell? b) → (∀ b, W'.frozen? b = W.frozen? b) → W'.heap.size = W.heap.size → (∀ j, j ≠ k → W'.heap[j]? = W.heap[j]?) → Hid (Below k W W') →
      wpList P ops Q rest (a.put o.dst (.tuple #[.bool true, .int .i64 pos, .int .i32 c])) W') : wpList P ops Q (o :: rest) a W := by
  have hlt : pos < s.size := by
    have := (List.getElem?_eq_some_iff.1 hc).1
    simpa using this
  have hv : (s[pos]'hlt).toNat = c := by
    have := (List.getElem?_eq_some_iff.1 hc).2
    have e : s[pos]'hlt = s.data.toList[pos]'(by simpa using hlt) := rfl
    rw [e, this]
    simp [UInt8.toNat_ofNat]
    omega
  refine wpList_plain hgd fun K hK => ?_
  have hr := run_next_ascii_at (P := P) W k s pos o.type hk hlt (by omega)
  unfold Oper.wp execOp
  simp only [hop, hx, hr, Sem.run_bind, Result.andThen_ok, Sem.run_pure]
  rw [hv]
  exact hK _ _ (h (W.iterAt k s (pos + 1)) (iterAt_heap W k s pos _ hk) (iterAt_cell W k s pos _ hk) (iterAt_frozen W k s pos _ hk) (iterAt_size W k s _) (fun j hj => iterAt_other W k j s _ hj) (below_iterAt (Below.refl _ _) (Nat.le_refl _) _ _))
/-- The last round's 'next'. -/
theorem wpl_next_end {P : Program} {W : World} {ops : Array Oper} {rest : List Oper} {o : Oper} {a : Act} {Q : Exit → Act → World → Prop} {x : Operand} (hop : o.op = .next x true) (hgd : o.guard = none)
    {k : Nat} {s : ByteArray} {pos : Nat} (hx : a.eval x = .pointer (some ⟨k, 0, none⟩)) (hk : W.heap[k]? = some (.stringIter s pos)) (hc : s.data.toList.length ≤ pos)
    (h : wpList P ops Q rest (a.put o.dst (.tuple #[.bool false])) W) : wpList P ops Q (o :: rest) a W := by
  have hlt : ¬ pos < s.size := by
    have : s.data.toList.length = s.size := by simp
    omega
  refine wpList_plain hgd fun K hK => ?_
  have hr := run_next_end_at (P := P) W k s pos o.type hk hlt
  unfold Oper.wp execOp
  simp only [hop, hx, hr, Sem.run_bind, Result.andThen_ok, Sem.run_pure]
  exact hK _ _ h
end Go.Proofs.Ytgicbgeblgfnfaa
