/-
  ops.table at every number.
-/
import Derived.Test.YtgicbgeblgfnfaaTab0
import Derived.Test.YtgicbgeblgfnfaaTab1
import Derived.Test.YtgicbgeblgfnfaaTab2
import Derived.Test.YtgicbgeblgfnfaaSub
import Derived.Lib.Hide
set_option maxRecDepth 100000
set_option maxHeartbeats 4000000
set_option linter.unusedSimpArgs false
set_option linter.unusedVariables false
namespace Go.Proofs.Ytgicbgeblgfnfaa
open Go Go.RowKit
theorem table_mid (c : Int) (w : World) (h1 : 87 ≤ c) (h2 : c ≤ 147) : Calls Try.prog 18 #[.int .i64 c] w fun e w' => e = .returned (.agg #[.string ⟨(rowOf c).1.toArray⟩, .string ⟨(rowOf c).2.toArray⟩]) ∧ Below w.heap.size w w' := by
  go_enter Try.func18, Try.ntmps18
  go_wp2_with (go_at_call 27; refine (reckons_any _ _ h1 h2).mono ?_; rintro e w1 ⟨rfl, hb⟩; have hz := hb.size; simp only [World.size_alloc] at hz; obtain ⟨hc, hf⟩ := bcell hb; have c0 := hc w.heap.size 0 (by simp; omega); have c1 := hc w.heap.size 1 (by simp; omega); have f0 := hf w.heap.size 0 (by simp; omega); have f1 := hf w.heap.size 1 (by simp; omega); clear hc hf; simp [go_sem] at c0 c1 f0 f1)
  refine bodyPost_ret (v := .agg #[.string ⟨(rowOf c).1.toArray⟩, .string ⟨(rowOf c).2.toArray⟩]) ?_ rfl ⟨rfl, ?_⟩
  · simp [results, Try.results18, go_sem, c0, c1, f0, f1, hz]
  · exact ((((Below.refl _ _).alloc (Nat.le_refl _) _).alloc (by simp) _).trans (hb.mono (by simp; omega))).setCell (by simp) _ |>.setCell (by simp) _

theorem table_rest (c : Int) (w : World) (h1 : c < 0 ∨ 8 < c) (h2 : c < 26 ∨ 29 < c) (h3 : c < 42 ∨ 45 < c) (h4 : c < 59 ∨ 62 < c) (h5 : c < 75 ∨ 78 < c) (h6 : c < 87 ∨ 147 < c) (h7 : c < 153 ∨ 167 < c) (h8 : c < 16 ∨ 18 < c) (h9 : c ≠ 21) (h10 : c ≠ 25) (h11 : c ≠ 54) (h12 : c ≠ 58) : Calls Try.prog 18 #[.int .i64 c] w fun e w' => e = .returned (.agg #[.string ⟨(rowOf c).1.toArray⟩, .string ⟨(rowOf c).2.toArray⟩]) ∧ Below w.heap.size w w' := by
  have e0 : (c == 0) = false := by simp; omega
  have e1 : (c == 1) = false := by simp; omega
  have e16 : (c == 16) = false := by simp; omega
  have e17 : (c == 17) = false := by simp; omega
  have e18 : (c == 18) = false := by simp; omega
  have e21 : (c == 21) = false := by simp; omega
  have e25 : (c == 25) = false := by simp; omega
  have e54 : (c == 54) = false := by simp; omega
  have e58 : (c == 58) = false := by simp; omega
  have K0 : ∀ w, Calls Try.prog 28 #[.int .i64 c] w fun e w' => e = .returned (.agg #[.string ⟨(rowOf c).1.toArray⟩, .string ⟨(rowOf c).2.toArray⟩]) ∧ Below w.heap.size w w' := fun w => others_any c w h1 h2 h3 h4 h5 h6 h7 h8 h9 h10 h11 h12
  have K := Lib.hid K0
  clear K0
  clear h8 h9 h10 h11 h12
  go_enter Try.func18, Try.ntmps18
  go_wp2_with (go_at_call 28; refine (K.out _).mono ?_; rintro e w1 ⟨rfl, hb⟩; have hz := hb.size; simp only [World.size_alloc] at hz; obtain ⟨hc, hf⟩ := bcell hb; have c0 := hc w.heap.size 0 (by simp; omega); have c1 := hc w.heap.size 1 (by simp; omega); have f0 := hf w.heap.size 0 (by simp; omega); have f1 := hf w.heap.size 1 (by simp; omega); clear hc hf; simp [go_sem] at c0 c1 f0 f1)
  all_goals
    refine bodyPost_ret (v := .agg #[.string ⟨(rowOf c).1.toArray⟩, .string ⟨(rowOf c).2.toArray⟩]) ?_ rfl ⟨rfl, ?_⟩
    · simp [results, Try.results18, go_sem, c0, c1, f0, f1, hz]
    · exact ((((Below.refl _ _).alloc (Nat.le_refl _) _).alloc (by simp) _).trans (hb.mono (by simp; omega))).setCell (by simp) _ |>.setCell (by simp) _

theorem table_any (c : Int) (w : World) : Calls Try.prog 18 #[.int .i64 c] w fun e w' => e = .returned (.agg #[.string ⟨(rowOf c).1.toArray⟩, .string ⟨(rowOf c).2.toArray⟩]) ∧ Below w.heap.size w w' := by
  by_cases hm : 87 ≤ c ∧ c ≤ 147
  · exact table_mid c w hm.1 hm.2
  by_cases hl : c ∈ ([0, 1, 2, 3, 4, 5, 6, 7, 8, 16, 17, 18, 21, 25, 26, 27, 28, 29, 42, 43, 44, 45, 54, 58, 59, 60, 61, 62, 75, 76, 77, 78, 153, 154, 155, 156, 157, 158, 159, 160, 161, 162, 163, 164, 165, 166, 167] : List Int)
  · simp only [List.mem_cons, List.not_mem_nil, or_false] at hl
    rcases hl with rfl | rfl | rfl | rfl | rfl | rfl | rfl | rfl | rfl | rfl | rfl | rfl | rfl | rfl | rfl | rfl | rfl | rfl | rfl | rfl | rfl | rfl | rfl | rfl | rfl | rfl | rfl | rfl | rfl | rfl | rfl | rfl | rfl | rfl | rfl | rfl | rfl | rfl | rfl | rfl | rfl | rfl | rfl | rfl | rfl | rfl | rfl
    · exact table_0 w
    · exact table_1 w
    · exact table_2 w
    · exact table_3 w
    · exact table_4 w
    · exact table_5 w
    · exact table_6 w
    · exact table_7 w
    · exact table_8 w
    · exact table_16 w
    · exact table_17 w
    · exact table_18 w
    · exact table_21 w
    · exact table_25 w
    · exact table_26 w
    · exact table_27 w
    · exact table_28 w
    · exact table_29 w
    · exact table_42 w
    · exact table_43 w
    · exact table_44 w
    · exact table_45 w
    · exact table_54 w
    · exact table_58 w
    · exact table_59 w
    · exact table_60 w
    · exact table_61 w
    · exact table_62 w
    · exact table_75 w
    · exact table_76 w
    · exact table_77 w
    · exact table_78 w
    · exact table_153 w
    · exact table_154 w
    · exact table_155 w
    · exact table_156 w
    · exact table_157 w
    · exact table_158 w
    · exact table_159 w
    · exact table_160 w
    · exact table_161 w
    · exact table_162 w
    · exact table_163 w
    · exact table_164 w
    · exact table_165 w
    · exact table_166 w
    · exact table_167 w
  · simp only [List.mem_cons, List.not_mem_nil, or_false, not_or] at hl
    refine table_rest c w ?_ ?_ ?_ ?_ ?_ ?_ ?_ ?_ ?_ ?_ ?_ ?_ <;> omega
end Go.Proofs.Ytgicbgeblgfnfaa
