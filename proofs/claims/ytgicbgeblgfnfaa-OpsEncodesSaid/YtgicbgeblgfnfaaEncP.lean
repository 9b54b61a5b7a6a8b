/-
  What an instruction is encoded as, in plain lists; ops.Encode answers so.
-/
import Derived.Test.YtgicbgeblgfnfaaDecP
import Derived.Test.YtgicbgeblgfnfaaOpsA
import Derived.Test.YtgicbgeblgfnfaaEnc0
import Derived.Test.YtgicbgeblgfnfaaEnc1
import Derived.Test.YtgicbgeblgfnfaaEnc2
import Derived.Test.YtgicbgeblgfnfaaEnc3
import Derived.Test.YtgicbgeblgfnfaaEnc4
set_option linter.unusedSimpArgs false
set_option linter.unusedVariables false
set_option maxRecDepth 100000
set_option maxHeartbeats 1000000
namespace Go.Proofs.Ytgicbgeblgfnfaa
open Go Go.RowKit Lib
/-- The low byte of a number. -/
def lo (n : Int) : UInt8 := UInt8.ofNat (n % 256).toNat
theorem lo_V (n : Int) : Value.int .u8 (n % 256) = bV (lo n) := by
  unfold bV lo
  rw [UInt8.toNat_ofNat']
  congr 1
  omega
theorem lo_c {c : Int} (h0 : 0 ≤ c) (h1 : c < 256) : Value.int .u8 c = bV (lo c) := by
  rw [← lo_V]
  congr 1
  omega
def two (n : Int) : List UInt8 := [lo (n / 256), lo n]
def encF (f : List UInt8) (c a b : Int) : Option (List UInt8) :=
  if f = [] then if a = 0 ∧ b = 0 then some [lo c] else none
  else if f = [117, 98] then if wthn 117 a = true ∧ wthn 98 b = true then some [lo c, lo a, lo b] else none
  else if f = [105] then if wthn 105 a = true ∧ wthn 117 b = true then some ([lo c] ++ two a ++ [lo b, 0]) else none
  else if f = [98] ∨ f = [117] then if wthn ((f.getD 0 0).toNat : Int) a = true ∧ b = 0 then some [lo c, lo a] else none
  else if wthn ((f.getD 0 0).toNat : Int) a = true ∧ b = 0 then some ([lo c] ++ two a) else none
def encP (c a b : Int) : Option (List UInt8) := if (rowOf c).1 = [] then none else encF (rowOf c).2 c a b
/-- What Encode hands back. -/
def EncR (w w' : World) (e : Ending) : Option (List UInt8) → Prop
  | none => e = .returned (.tuple #[.slice none 0 0, .bool false])
  | some l => ∃ g cap, e = .returned (.tuple #[.slice (some ⟨g, 0, none⟩) l.length cap, .bool true]) ∧ w'.ownsRow w.heap.size 5 1 (.slice (some ⟨g, 0, none⟩) l.length cap) l.length (l.map bV)
theorem rowOf_range {c : Int} (h : (rowOf c).1 ≠ []) : 0 ≤ c ∧ c < 256 := by
  obtain ⟨r, hr, hc, _⟩ := rowOf_mem h
  have := codeOf_names r hr
  omega
theorem enc_name0 (c a b n : Int) (hrow : (rowOf c).1 = []) (w : World) :
    Calls Try.prog 16 #[.agg #[.int .i64 c, .int .i64 a, .int .i64 b, .int .i64 n]] w fun e w' => e = .returned (.tuple #[.slice none 0 0, .bool false]) ∧ Below w.heap.size w w' := by
  have HT : ∀ W, Calls Try.prog 18 #[.int .i64 c] W fun e w' => e = .returned (.agg #[.string ⟨#[]⟩, .string ⟨(rowOf c).2.toArray⟩]) ∧ Below W.heap.size W w' := fun W => by
    have := table_any c W
    rw [hrow] at this
    exact this
  have HT' := Lib.hid HT
  clear HT hrow
  go_enter Try.func16, Try.ntmps16
  go_wp2_with fail
  refine (HT'.out _).mono ?_
  rintro e w1 ⟨rfl, hb1⟩
  have HB0 := Lib.hid (((Below.refl w.heap.size w).alloc (Nat.le_refl _) _).trans (hb1.mono (by simp)))
  clear hb1
  go_wp2_with fail
  go_ret2
  exact ⟨rfl, HB0.out.alloc HB0.out.size _⟩
theorem enc_any (c a b n : Int) (w : World) :
    Calls Try.prog 16 #[.agg #[.int .i64 c, .int .i64 a, .int .i64 b, .int .i64 n]] w fun e w' => EncR w w' e (encP c a b) ∧ Below w.heap.size w w' := by
  by_cases hn : (rowOf c).1 = []
  · rw [encP, if_pos hn]
    exact enc_name0 c a b n hn w
  obtain ⟨hc0, hc1⟩ := rowOf_range hn
  rw [encP, if_neg hn]
  have hf := rowOf_forms c
  obtain ⟨nm, f, hr⟩ : ∃ nm f, rowOf c = (nm, f) := ⟨_, _, rfl⟩
  rw [hr] at hf hn ⊢
  simp only [forms, List.mem_cons, List.not_mem_nil, or_false] at hf
  show Calls _ _ _ _ fun e w' => EncR w w' e (encF f c a b) ∧ _
  rcases hf with rfl | rfl | rfl | rfl | rfl | rfl | rfl | rfl | rfl | rfl
  · by_cases ha : a = 0
    · by_cases hb0 : b = 0
      · have e : encF [] c a b = some ([lo c]) := by simp [encF, *]
        rw [e]
        refine (enc_e_ok c a b n hc0 hc1 nm hr hn ha hb0 w).mono ?_
        rintro e w' ⟨g, cap, he, ho, hb⟩
        exact ⟨⟨g, cap, he, own_eq ho rfl (by simp [lo_V, lo_c hc0 hc1, two, bV])⟩, hb⟩
      · have e : encF [] c a b = none := by simp [encF, *]
        rw [e]
        exact enc_e_extrab c a b n hc0 hc1 nm hr hn hb0 w
    · have e : encF [] c a b = none := by simp [encF, *]
      rw [e]
      exact enc_e_extraa c a b n hc0 hc1 nm hr hn ha w
  · by_cases hw0 : wthn 98 a = true
    · by_cases hb0 : b = 0
      · have e : encF [98] c a b = some ([lo c, lo a]) := by simp [encF, *]
        rw [e]
        refine (enc_b_ok c a b n hc0 hc1 nm hr hn hw0 hb0 w).mono ?_
        rintro e w' ⟨g, cap, he, ho, hb⟩
        exact ⟨⟨g, cap, he, own_eq ho rfl (by simp [lo_V, lo_c hc0 hc1, two, bV])⟩, hb⟩
      · have e : encF [98] c a b = none := by simp [encF, *]
        rw [e]
        exact enc_b_extrab c a b n hc0 hc1 nm hr hn hw0 hb0 w
    · have e : encF [98] c a b = none := by simp [encF, *]
      rw [e]
      exact enc_b_bad0 c a b n hc0 hc1 nm hr hn (by simpa using hw0) w
  · by_cases hw0 : wthn 117 a = true
    · by_cases hb0 : b = 0
      · have e : encF [117] c a b = some ([lo c, lo a]) := by simp [encF, *]
        rw [e]
        refine (enc_u_ok c a b n hc0 hc1 nm hr hn hw0 hb0 w).mono ?_
        rintro e w' ⟨g, cap, he, ho, hb⟩
        exact ⟨⟨g, cap, he, own_eq ho rfl (by simp [lo_V, lo_c hc0 hc1, two, bV])⟩, hb⟩
      · have e : encF [117] c a b = none := by simp [encF, *]
        rw [e]
        exact enc_u_extrab c a b n hc0 hc1 nm hr hn hw0 hb0 w
    · have e : encF [117] c a b = none := by simp [encF, *]
      rw [e]
      exact enc_u_bad0 c a b n hc0 hc1 nm hr hn (by simpa using hw0) w
  · by_cases hw0 : wthn 115 a = true
    · by_cases hb0 : b = 0
      · have e : encF [115] c a b = some ([lo c] ++ two a) := by simp [encF, *]
        rw [e]
        refine (enc_s_ok c a b n hc0 hc1 nm hr hn hw0 hb0 w).mono ?_
        rintro e w' ⟨g, cap, he, ho, hb⟩
        exact ⟨⟨g, cap, he, own_eq ho rfl (by simp [lo_V, lo_c hc0 hc1, two, bV])⟩, hb⟩
      · have e : encF [115] c a b = none := by simp [encF, *]
        rw [e]
        exact enc_s_extrab c a b n hc0 hc1 nm hr hn hw0 hb0 w
    · have e : encF [115] c a b = none := by simp [encF, *]
      rw [e]
      exact enc_s_bad0 c a b n hc0 hc1 nm hr hn (by simpa using hw0) w
  · by_cases hw0 : wthn 106 a = true
    · by_cases hb0 : b = 0
      · have e : encF [106] c a b = some ([lo c] ++ two a) := by simp [encF, *]
        rw [e]
        refine (enc_j_ok c a b n hc0 hc1 nm hr hn hw0 hb0 w).mono ?_
        rintro e w' ⟨g, cap, he, ho, hb⟩
        exact ⟨⟨g, cap, he, own_eq ho rfl (by simp [lo_V, lo_c hc0 hc1, two, bV])⟩, hb⟩
      · have e : encF [106] c a b = none := by simp [encF, *]
        rw [e]
        exact enc_j_extrab c a b n hc0 hc1 nm hr hn hw0 hb0 w
    · have e : encF [106] c a b = none := by simp [encF, *]
      rw [e]
      exact enc_j_bad0 c a b n hc0 hc1 nm hr hn (by simpa using hw0) w
  · by_cases hw0 : wthn 102 a = true
    · by_cases hb0 : b = 0
      · have e : encF [102] c a b = some ([lo c] ++ two a) := by simp [encF, *]
        rw [e]
        refine (enc_f_ok c a b n hc0 hc1 nm hr hn hw0 hb0 w).mono ?_
        rintro e w' ⟨g, cap, he, ho, hb⟩
        exact ⟨⟨g, cap, he, own_eq ho rfl (by simp [lo_V, lo_c hc0 hc1, two, bV])⟩, hb⟩
      · have e : encF [102] c a b = none := by simp [encF, *]
        rw [e]
        exact enc_f_extrab c a b n hc0 hc1 nm hr hn hw0 hb0 w
    · have e : encF [102] c a b = none := by simp [encF, *]
      rw [e]
      exact enc_f_bad0 c a b n hc0 hc1 nm hr hn (by simpa using hw0) w
  · by_cases hw0 : wthn 109 a = true
    · by_cases hb0 : b = 0
      · have e : encF [109] c a b = some ([lo c] ++ two a) := by simp [encF, *]
        rw [e]
        refine (enc_m_ok c a b n hc0 hc1 nm hr hn hw0 hb0 w).mono ?_
        rintro e w' ⟨g, cap, he, ho, hb⟩
        exact ⟨⟨g, cap, he, own_eq ho rfl (by simp [lo_V, lo_c hc0 hc1, two, bV])⟩, hb⟩
      · have e : encF [109] c a b = none := by simp [encF, *]
        rw [e]
        exact enc_m_extrab c a b n hc0 hc1 nm hr hn hw0 hb0 w
    · have e : encF [109] c a b = none := by simp [encF, *]
      rw [e]
      exact enc_m_bad0 c a b n hc0 hc1 nm hr hn (by simpa using hw0) w
  · by_cases hw0 : wthn 99 a = true
    · by_cases hb0 : b = 0
      · have e : encF [99] c a b = some ([lo c] ++ two a) := by simp [encF, *]
        rw [e]
        refine (enc_c_ok c a b n hc0 hc1 nm hr hn hw0 hb0 w).mono ?_
        rintro e w' ⟨g, cap, he, ho, hb⟩
        exact ⟨⟨g, cap, he, own_eq ho rfl (by simp [lo_V, lo_c hc0 hc1, two, bV])⟩, hb⟩
      · have e : encF [99] c a b = none := by simp [encF, *]
        rw [e]
        exact enc_c_extrab c a b n hc0 hc1 nm hr hn hw0 hb0 w
    · have e : encF [99] c a b = none := by simp [encF, *]
      rw [e]
      exact enc_c_bad0 c a b n hc0 hc1 nm hr hn (by simpa using hw0) w
  · by_cases hw0 : wthn 105 a = true
    · by_cases hw1 : wthn 117 b = true
      · have e : encF [105] c a b = some ([lo c] ++ two a ++ [lo b, 0]) := by simp [encF, *]
        rw [e]
        refine (enc_i_ok c a b n hc0 hc1 nm hr hn hw0 hw1 w).mono ?_
        rintro e w' ⟨g, cap, he, ho, hb⟩
        exact ⟨⟨g, cap, he, own_eq ho rfl (by simp [lo_V, lo_c hc0 hc1, two, bV])⟩, hb⟩
      · have e : encF [105] c a b = none := by simp [encF, *]
        rw [e]
        exact enc_i_bad1 c a b n hc0 hc1 nm hr hn hw0 (by simpa using hw1) w
    · have e : encF [105] c a b = none := by simp [encF, *]
      rw [e]
      exact enc_i_bad0 c a b n hc0 hc1 nm hr hn (by simpa using hw0) w
  · by_cases hw0 : wthn 117 a = true
    · by_cases hw1 : wthn 98 b = true
      · have e : encF [117, 98] c a b = some ([lo c, lo a, lo b]) := by simp [encF, *]
        rw [e]
        refine (enc_ub_ok c a b n hc0 hc1 nm hr hn hw0 hw1 w).mono ?_
        rintro e w' ⟨g, cap, he, ho, hb⟩
        exact ⟨⟨g, cap, he, own_eq ho rfl (by simp [lo_V, lo_c hc0 hc1, two, bV])⟩, hb⟩
      · have e : encF [117, 98] c a b = none := by simp [encF, *]
        rw [e]
        exact enc_ub_bad1 c a b n hc0 hc1 nm hr hn hw0 (by simpa using hw1) w
    · have e : encF [117, 98] c a b = none := by simp [encF, *]
      rw [e]
      exact enc_ub_bad0 c a b n hc0 hc1 nm hr hn (by simpa using hw0) w
end Go.Proofs.Ytgicbgeblgfnfaa
