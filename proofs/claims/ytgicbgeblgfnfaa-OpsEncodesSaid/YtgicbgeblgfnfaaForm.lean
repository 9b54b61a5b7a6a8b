/-
  The walks of turnstileref6.Form, turnstileref6.Find.
-/
import Derived.Test.YtgicbgeblgfnfaaRef
import Derived.Deep.QuietTactic
import Derived.BigQuiet
set_option maxRecDepth 100000
set_option maxHeartbeats 4000000
set_option linter.unusedSimpArgs false
set_option linter.unusedVariables false
namespace Go.Proofs.Ytgicbgeblgfnfaa
open Go Go.RowKit Lib
theorem refform_any (c : Int) (w : World) :
    Calls Try.prog 13 #[.int .i64 c] w fun e w' => e = .returned (.tuple #[.string ⟨(rowOf c).1.toArray⟩, .string ⟨(rowOf c).2.toArray⟩]) ∧ Below w.heap.size w w' := by
  go_enter Try.func13, Try.ntmps13
  go_wp2_with (go_at_call 23; refine (reftable_any _).mono ?_; rintro e w1 ⟨rfl, ht, hb⟩; have HT := Lib.hid ht; clear ht; have HB := Lib.hid hb; clear hb)
  go_loop [5] (fun i => ∃ k : Nat, k ≤ 83 ∧ i = .int .i64 k ∧ Hid (∀ j, j < k → (rowAt j).1 ≠ c)) (fun i => 83 - (intOf i).toNat)
  case atStart => exact ⟨0, by omega, rfl, fun j hj => absurd hj (by omega)⟩
  case round =>
    obtain ⟨k, hk, rfl, HN⟩ := hrel
    by_cases hlt : k < 83
    · obtain ⟨c0, c1, c2⟩ := HT.out k hlt
      by_cases he : (rowAt k).1 = c
      · have hb0 : ((rowAt k).1 == c) = true := by simp [he]
        have HR := Lib.hid (rowOf_at hlt he HN.out)
        have HE := Lib.hid he
        clear he
        go_wp2_with fail
        go_quiet (fail)
        go_wp2
        go_ret2
        exact ⟨by rw [HR.out]; rfl, below_drewN HB.out _⟩
      · have hb0 : ((rowAt k).1 == c) = false := by simp [he]
        have HE := Lib.hid he
        clear he
        go_wp2
        go_round
        case rel => exact ⟨k + 1, by omega, by go_num, fun j hj => by
          rcases Nat.lt_or_ge j k with h | h
          · exact HN.out j h
          · obtain rfl : j = k := by omega
            exact HE.out⟩
        case measure => simp [intOf]; omega
    · obtain rfl : k = 83 := by omega
      go_wp2
      go_ret2
      exact ⟨by rw [rowOf_end HN.out]; rfl, HB.out⟩
theorem reffind_any (s : ByteArray) (w : World) :
    Calls Try.prog 15 #[.string s] w fun e w' => e = .returned (.int .i64 (codeOf s.toList)) ∧ Below w.heap.size w w' := by
  go_enter Try.func15, Try.ntmps15
  go_wp2_with (go_at_call 23; refine (reftable_any _).mono ?_; rintro e w1 ⟨rfl, ht, hb⟩; have HT := Lib.hid ht; clear ht; have HB := Lib.hid hb; clear hb)
  go_loop [4] (fun i => ∃ k : Nat, k ≤ 83 ∧ i = .int .i64 k ∧ Hid (∀ j, j < k → (rowAt j).2.1 ≠ s.toList)) (fun i => 83 - (intOf i).toNat)
  case atStart => exact ⟨0, by omega, rfl, fun j hj => absurd hj (by omega)⟩
  case round =>
    obtain ⟨k, hk, rfl, HN⟩ := hrel
    by_cases hlt : k < 83
    · obtain ⟨c0, c1, c2⟩ := HT.out k hlt
      by_cases he : (rowAt k).2.1 = s.toList
      · have HR := Lib.hid (codeOf_at hlt he HN.out)
        have hb0 : ((rowAt k).2.1 == s.toList) = true := by simp [he]
        have HE := Lib.hid he
        clear he
        go_wp2
        go_ret
        exact ⟨by rw [HR.out]; rfl, HB.out⟩
      · have hb0 : ((rowAt k).2.1 == s.toList) = false := by simp [he]
        have HE := Lib.hid he
        clear he
        go_wp2
        go_round
        case rel => exact ⟨k + 1, by omega, by go_num, fun j hj => by
          rcases Nat.lt_or_ge j k with h | h
          · exact HN.out j h
          · obtain rfl : j = k := by omega
            exact HE.out⟩
        case measure => simp [intOf]; omega
    · obtain rfl : k = 83 := by omega
      go_wp2
      go_ret
      exact ⟨by rw [codeOf_end HN.out]; rfl, HB.out⟩
end Go.Proofs.Ytgicbgeblgfnfaa
