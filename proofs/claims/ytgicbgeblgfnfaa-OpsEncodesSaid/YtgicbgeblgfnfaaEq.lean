/-
  General small laws: two numbers in an array compared with two zeros.
-/
import Derived.Test.YtgicbgeblgfnfaaKit4
set_option linter.unusedSimpArgs false
set_option linter.unusedVariables false
namespace Go.Proofs.Ytgicbgeblgfnfaa
open Go Go.RowKit Lib
set_option maxRecDepth 100000 in
theorem eq_arr2 (w : World) (a b : Int) : (Op.equalIn 10000 55 (.agg #[.int .i64 a, .int .i64 b]) (.agg #[.int .i64 0, .int .i64 0])).run Try.prog w = .ok (a == 0 && b == 0) w := by
  obtain ⟨i, hi, _, h1, _⟩ := info_parts info_int
  have r2 : List.range' 0 2 = [0, 1] := rfl
  have hag : (isAgg 3).run Try.prog w = .ok false w := by simp [isAgg, run_underlying Try.underlying3]
  have e1 : ∀ x : Int, (Op.equalIn 9999 3 (.int .i64 x) (.int .i64 0)).run Try.prog w = .ok (x == 0) w := fun x => run_equalIn_int w 9998 _ _ _ _ _ Try.underlying3
  have hp : ∀ (x y : Int) (k : Nat) (v : Value), #[Value.int .i64 x, Value.int .i64 y][k]? = some v → (part 3 #[.int .i64 x, .int .i64 y] k).run Try.prog w = .ok v w := fun x y k v h => by simp [part, hag, h]
  unfold Op.equalIn
  simp [run_underlying Try.underlying55, sizeOf, typeInfo, hi, h1]
  rw [r2]
  have p0 := hp a b 0 _ rfl
  have p1 := hp a b 1 _ rfl
  have q0 := hp 0 0 0 _ rfl
  have q1 := hp 0 0 1 _ rfl
  by_cases ha : a = 0
  · subst ha
    by_cases hb : b = 0
    · subst hb
      simp [List.forIn_cons, p0, p1, q0, q1, e1]
    · have hb' : (b == 0) = false := by simp [hb]
      simp [List.forIn_cons, p0, p1, q0, q1, e1, hb']
  · have ha' : (a == 0) = false := by simp [ha]
    simp [List.forIn_cons, p0, q0, e1, ha']
end Go.Proofs.Ytgicbgeblgfnfaa
