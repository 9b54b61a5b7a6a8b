/-
  The reference's Encode answers as encP says.
-/
import Derived.Test.YtgicbgeblgfnfaaEncP
import Derived.Test.YtgicbgeblgfnfaaRdP
import Derived.Test.YtgicbgeblgfnfaaREnc0
import Derived.Test.YtgicbgeblgfnfaaREnc1
import Derived.Test.YtgicbgeblgfnfaaREnc2
import Derived.Test.YtgicbgeblgfnfaaREnc3
set_option linter.unusedSimpArgs false
set_option linter.unusedVariables false
set_option maxRecDepth 100000
set_option maxHeartbeats 4000000
namespace Go.Proofs.Ytgicbgeblgfnfaa
open Go Go.RowKit Lib
theorem renc_name0 (c a b n : Int) (hrow : rowOf c = ([], [])) (w : World) :
    Calls Try.prog 17 #[.agg #[.int .i64 c, .int .i64 a, .int .i64 b, .int .i64 n]] w fun e w' => e = .returned (.tuple #[.slice none 0 0, .bool false]) ∧ Below w.heap.size w w' := by
  have HT : ∀ W, Calls Try.prog 13 #[.int .i64 c] W fun e w' => e = .returned (.tuple #[.string ⟨#[]⟩, .string ⟨#[]⟩]) ∧ Below W.heap.size W w' := fun W => by
    have := refform_any c W
    rw [hrow] at this
    exact this
  have HT' := Lib.hid HT
  clear HT hrow
  go_enter Try.func17, Try.ntmps17
  go_wp2_with fail
  refine (HT'.out _).mono ?_
  rintro e w1 ⟨rfl, hb1⟩
  have HB0 := Lib.hid (((Below.refl w.heap.size w).alloc (Nat.le_refl _) _).trans (hb1.mono (by simp)))
  clear hb1
  go_wp2_with fail
  go_ret2
  exact ⟨rfl, HB0.out⟩
theorem renc_any (c a b n : Int) (w : World) :
    Calls Try.prog 17 #[.agg #[.int .i64 c, .int .i64 a, .int .i64 b, .int .i64 n]] w fun e w' => EncR w w' e (encP c a b) ∧ Below w.heap.size w w' := by
  by_cases hn : (rowOf c).1 = []
  · rw [encP, if_pos hn]
    exact renc_name0 c a b n (rowOf_bare hn) w
  obtain ⟨hc0, hc1⟩ := rowOf_range hn
  rw [encP, if_neg hn]
  have hf := rowOf_forms c
  obtain ⟨nm, f, hr⟩ : ∃ nm f, rowOf c = (nm, f) := ⟨_, _, rfl⟩
  rw [hr] at hf hn ⊢
  simp only [forms, List.mem_cons, List.not_mem_nil, or_false] at hf
  show Calls _ _ _ _ fun e w' => EncR w w' e (encF f c a b) ∧ _
  rcases hf with rfl | rfl | rfl | rfl | rfl | rfl | rfl | rfl | rfl | rfl
  · by_cases ha : a = 0
    · by_cases hb0 : b = 0
      · have e : encF [] c a b = some ([lo c]) := by simp [encF, *]
        rw [e]
        refine (renc_e_ok c a b n hc0 hc1 nm hr hn ha hb0 w).mono ?_
        rintro e w' ⟨g, cap, he, ho, hb⟩
        exact ⟨⟨g, cap, he, own_eq ho rfl (by simp [lo_V, lo_c hc0 hc1, two, bV])⟩, hb⟩
      · have e : encF [] c a b = none := by simp [encF, *]
        rw [e]
        exact renc_e_extrab c a b n hc0 hc1 nm hr hn ha hb0 w
    · have e : encF [] c a b = none := by simp [encF, *]
      rw [e]
      exact renc_e_extraa c a b n hc0 hc1 nm hr hn ha w
  · by_cases hb0 : b = 0
    · by_cases hw0 : wthn 98 a = true
      · have e : encF [98] c a b = some ([lo c, lo a]) := by simp [encF, *]
        rw [e]
        refine (renc_b_ok c a b n hc0 hc1 nm hr hn hw0 hb0 w).mono ?_
        rintro e w' ⟨g, cap, he, ho, hb⟩
        exact ⟨⟨g, cap, he, own_eq ho rfl (by simp [lo_V, lo_c hc0 hc1, two, bV])⟩, hb⟩
      · have e : encF [98] c a b = none := by simp [encF, *]
        rw [e]
        exact renc_b_bad0 c a b n hc0 hc1 nm hr hn (by simpa using hw0) hb0 w
    · have e : encF [98] c a b = none := by simp [encF, *]
      rw [e]
      exact renc_b_extrab c a b n hc0 hc1 nm hr hn hb0 w
  · by_cases hb0 : b = 0
    · by_cases hw0 : wthn 117 a = true
      · have e : encF [117] c a b = some ([lo c, lo a]) := by simp [encF, *]
        rw [e]
        refine (renc_u_ok c a b n hc0 hc1 nm hr hn hw0 hb0 w).mono ?_
        rintro e w' ⟨g, cap, he, ho, hb⟩
        exact ⟨⟨g, cap, he, own_eq ho rfl (by simp [lo_V, lo_c hc0 hc1, two, bV])⟩, hb⟩
      · have e : encF [117] c a b = none := by simp [encF, *]
        rw [e]
        exact renc_u_bad0 c a b n hc0 hc1 nm hr hn (by simpa using hw0) hb0 w
    · have e : encF [117] c a b = none := by simp [encF, *]
      rw [e]
      exact renc_u_extrab c a b n hc0 hc1 nm hr hn hb0 w
  · by_cases hb0 : b = 0
    · by_cases hw0 : wthn 115 a = true
      · have e : encF [115] c a b = some ([lo c] ++ two a) := by simp [encF, *]
        rw [e]
        refine (renc_s_ok c a b n hc0 hc1 nm hr hn hw0 hb0 w).mono ?_
        rintro e w' ⟨g, cap, he, ho, hb⟩
        exact ⟨⟨g, cap, he, own_eq ho rfl (by simp [lo_V, lo_c hc0 hc1, two, bV])⟩, hb⟩
      · have e : encF [115] c a b = none := by simp [encF, *]
        rw [e]
        exact renc_s_bad0 c a b n hc0 hc1 nm hr hn (by simpa using hw0) hb0 w
    · have e : encF [115] c a b = none := by simp [encF, *]
      rw [e]
      exact renc_s_extrab c a b n hc0 hc1 nm hr hn hb0 w
  · by_cases hb0 : b = 0
    · by_cases hw0 : wthn 106 a = true
      · have e : encF [106] c a b = some ([lo c] ++ two a) := by simp [encF, *]
        rw [e]
        refine (renc_j_ok c a b n hc0 hc1 nm hr hn hw0 hb0 w).mono ?_
        rintro e w' ⟨g, cap, he, ho, hb⟩
        exact ⟨⟨g, cap, he, own_eq ho rfl (by simp [lo_V, lo_c hc0 hc1, two, bV])⟩, hb⟩
      · have e : encF [106] c a b = none := by simp [encF, *]
        rw [e]
        exact renc_j_bad0 c a b n hc0 hc1 nm hr hn (by simpa using hw0) hb0 w
    · have e : encF [106] c a b = none := by simp [encF, *]
      rw [e]
      exact renc_j_extrab c a b n hc0 hc1 nm hr hn hb0 w
  · by_cases hb0 : b = 0
    · by_cases hw0 : wthn 102 a = true
      · have e : encF [102] c a b = some ([lo c] ++ two a) := by simp [encF, *]
        rw [e]
        refine (renc_f_ok c a b n hc0 hc1 nm hr hn hw0 hb0 w).mono ?_
        rintro e w' ⟨g, cap, he, ho, hb⟩
        exact ⟨⟨g, cap, he, own_eq ho rfl (by simp [lo_V, lo_c hc0 hc1, two, bV])⟩, hb⟩
      · have e : encF [102] c a b = none := by simp [encF, *]
        rw [e]
        exact renc_f_bad0 c a b n hc0 hc1 nm hr hn (by simpa using hw0) hb0 w
    · have e : encF [102] c a b = none := by simp [encF, *]
      rw [e]
      exact renc_f_extrab c a b n hc0 hc1 nm hr hn hb0 w
  · by_cases hb0 : b = 0
    · by_cases hw0 : wthn 109 a = true
      · have e : encF [109] c a b = some ([lo c] ++ two a) := by simp [encF, *]
        rw [e]
        refine (renc_m_ok c a b n hc0 hc1 nm hr hn hw0 hb0 w).mono ?_
        rintro e w' ⟨g, cap, he, ho, hb⟩
        exact ⟨⟨g, cap, he, own_eq ho rfl (by simp [lo_V, lo_c hc0 hc1, two, bV])⟩, hb⟩
      · have e : encF [109] c a b = none := by simp [encF, *]
        rw [e]
        exact renc_m_bad0 c a b n hc0 hc1 nm hr hn (by simpa using hw0) hb0 w
    · have e : encF [109] c a b = none := by simp [encF, *]
      rw [e]
      exact renc_m_extrab c a b n hc0 hc1 nm hr hn hb0 w
  · by_cases hb0 : b = 0
    · by_cases hw0 : wthn 99 a = true
      · have e : encF [99] c a b = some ([lo c] ++ two a) := by simp [encF, *]
        rw [e]
        refine (renc_c_ok c a b n hc0 hc1 nm hr hn hw0 hb0 w).mono ?_
        rintro e w' ⟨g, cap, he, ho, hb⟩
        exact ⟨⟨g, cap, he, own_eq ho rfl (by simp [lo_V, lo_c hc0 hc1, two, bV])⟩, hb⟩
      · have e : encF [99] c a b = none := by simp [encF, *]
        rw [e]
        exact renc_c_bad0 c a b n hc0 hc1 nm hr hn (by simpa using hw0) hb0 w
    · have e : encF [99] c a b = none := by simp [encF, *]
      rw [e]
      exact renc_c_extrab c a b n hc0 hc1 nm hr hn hb0 w
  · by_cases hw0 : wthn 105 a = true
    · by_cases hw1 : wthn 117 b = true
      · have e : encF [105] c a b = some ([lo c] ++ two a ++ [lo b, 0]) := by simp [encF, *]
        rw [e]
        refine (renc_i_ok c a b n hc0 hc1 nm hr hn hw0 hw1 w).mono ?_
        rintro e w' ⟨g, cap, he, ho, hb⟩
        exact ⟨⟨g, cap, he, own_eq ho rfl (by simp [lo_V, lo_c hc0 hc1, two, bV])⟩, hb⟩
      · have e : encF [105] c a b = none := by simp [encF, *]
        rw [e]
        exact renc_i_bad1 c a b n hc0 hc1 nm hr hn hw0 (by simpa using hw1) w
    · have e : encF [105] c a b = none := by simp [encF, *]
      rw [e]
      exact renc_i_bad0 c a b n hc0 hc1 nm hr hn (by simpa using hw0) w
  · by_cases hw0 : wthn 117 a = true
    · by_cases hw1 : wthn 98 b = true
      · have e : encF [117, 98] c a b = some ([lo c, lo a, lo b]) := by simp [encF, *]
        rw [e]
        refine (renc_ub_ok c a b n hc0 hc1 nm hr hn hw0 hw1 w).mono ?_
        rintro e w' ⟨g, cap, he, ho, hb⟩
        exact ⟨⟨g, cap, he, own_eq ho rfl (by simp [lo_V, lo_c hc0 hc1, two, bV])⟩, hb⟩
      · have e : encF [117, 98] c a b = none := by simp [encF, *]
        rw [e]
        exact renc_ub_bad1 c a b n hc0 hc1 nm hr hn hw0 (by simpa using hw1) w
    · have e : encF [117, 98] c a b = none := by simp [encF, *]
      rw [e]
      exact renc_ub_bad0 c a b n hc0 hc1 nm hr hn (by simpa using hw0) w
end Go.Proofs.Ytgicbgeblgfnfaa
