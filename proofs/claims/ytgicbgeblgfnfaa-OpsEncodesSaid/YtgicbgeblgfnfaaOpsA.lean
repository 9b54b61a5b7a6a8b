/-
  The walks of ops.Form, ops.Find, and of the reference's small functions on numbers.
-/
import Derived.Test.YtgicbgeblgfnfaaTable
import Derived.Test.YtgicbgeblgfnfaaForm
set_option maxRecDepth 100000
set_option maxHeartbeats 4000000
set_option linter.unusedSimpArgs false
set_option linter.unusedVariables false
namespace Go.Proofs.Ytgicbgeblgfnfaa
open Go Go.RowKit Lib
theorem opsform_any (c : Int) (w : World) :
    Calls Try.prog 12 #[.int .i64 c] w fun e w' => e = .returned (.tuple #[.string ⟨(rowOf c).1.toArray⟩, .string ⟨(rowOf c).2.toArray⟩]) ∧ Below w.heap.size w w' := by
  go_enter Try.func12, Try.ntmps12
  go_wp2_with (go_at_call 18; refine (table_any _ _).mono ?_; rintro e w1 ⟨rfl, hb⟩; have HB := Lib.hid hb; clear hb)
  go_quiet (fail)
  go_wp2
  go_ret2
  exact ⟨rfl, below_drewN ((HB.out).alloc HB.out.size _) _⟩
theorem rowOf_mem {c : Int} (h : (rowOf c).1 ≠ []) : ∃ r ∈ rowL, r.1 = c ∧ r.2 = rowOf c := by
  unfold rowOf at h ⊢
  split
  · rename_i r hr
    have h1 := List.find?_some hr
    exact ⟨r, List.mem_of_find?_eq_some hr, by simpa using h1, rfl⟩
  · rename_i hr
    rw [hr] at h
    exact absurd rfl h
theorem codeOf_names : ∀ r ∈ rowL, codeOf r.2.1 = r.1 ∧ 0 ≤ r.1 ∧ r.1 < 256 ∧ rowOf r.1 = r.2 := by decide
theorem codeOf_hit {c : Int} {s : List UInt8} (h : (rowOf c).1 = s) (hs : s ≠ []) : codeOf s = c := by
  obtain ⟨r, hr, hc, h2⟩ := rowOf_mem (c := c) (by rw [h]; exact hs)
  rw [← h, ← h2, ← hc]
  exact (codeOf_names r hr).1
theorem codeOf_miss {s : List UInt8} (h : ∀ c : Nat, c < 256 → (rowOf c).1 ≠ s) : codeOf s = -1 := by
  unfold codeOf
  split
  · rename_i r hr
    exfalso
    have h1 := List.find?_some hr
    simp only [beq_iff_eq] at h1
    obtain ⟨_, h2, h3, h4⟩ := codeOf_names r (List.mem_of_find?_eq_some hr)
    have := h r.1.toNat (by omega)
    rw [show ((r.1.toNat : Nat) : Int) = r.1 from by omega, h4] at this
    exact this h1
  · rfl
theorem codeOf_nil : codeOf [] = -1 := by decide
theorem opsfind_nil (s : ByteArray) (hs : s.toList = []) (w : World) :
    Calls Try.prog 14 #[.string s] w fun e w' => e = .returned (.int .i64 (-1)) ∧ Below w.heap.size w w' := by
  have he : s.toList.isEmpty = true := by simp [hs]
  have HE := Lib.hid hs
  clear hs
  go_enter Try.func14, Try.ntmps14
  go_wp2
  go_loopw [5] (fun i wr => ∃ k : Nat, k ≤ 256 ∧ i = .int .i64 k ∧ Hid (Below w.heap.size w wr)) (fun i _ => 256 - (intOf i).toNat)
  case atStart => exact ⟨0, by omega, rfl, Below.refl _ _⟩
  case round =>
    obtain ⟨k, hk, rfl, HB⟩ := hrel
    by_cases hlt : k < 256
    · go_wp2_with (go_at_call 18; refine (table_any _ _).mono ?_; rintro e w1 ⟨rfl, hb⟩; have HB1 := Lib.hid hb; clear hb)
      all_goals
        go_roundw
        case rel => exact ⟨k + 1, by omega, by go_num, by show Below _ _ _; exact (HB.out.trans (HB1.out.mono HB.out.size)).alloc (Nat.le_trans HB.out.size HB1.out.size) _⟩
        case measure => simp [intOf]; omega
    · obtain rfl : k = 256 := by omega
      go_wp2
      go_ret
      exact ⟨rfl, HB.out⟩
theorem opsfind_some (s : ByteArray) (hs : s.toList ≠ []) (w : World) :
    Calls Try.prog 14 #[.string s] w fun e w' => e = .returned (.int .i64 (codeOf s.toList)) ∧ Below w.heap.size w w' := by
  have he : s.toList.isEmpty = false := by simp [hs]
  have HE := Lib.hid hs
  clear hs
  go_enter Try.func14, Try.ntmps14
  go_wp2
  go_loopw [5] (fun i wr => ∃ k : Nat, k ≤ 256 ∧ i = .int .i64 k ∧ Hid (Below w.heap.size w wr) ∧ Hid (∀ c : Nat, c < k → (rowOf c).1 ≠ s.toList)) (fun i _ => 256 - (intOf i).toNat)
  case atStart => exact ⟨0, by omega, rfl, Below.refl _ _, fun c hc => absurd hc (by omega)⟩
  case round =>
    obtain ⟨k, hk, rfl, HB, HN⟩ := hrel
    by_cases hlt : k < 256
    · by_cases hh : (rowOf k).1 = s.toList
      · have hb0 : ((rowOf k).1 == s.toList) = true := by simp [hh]
        have HR := Lib.hid (codeOf_hit hh HE.out)
        clear hh
        go_wp2_with (go_at_call 18; refine (table_any _ _).mono ?_; rintro e w1 ⟨rfl, hb⟩; have HB1 := Lib.hid hb; clear hb)
        go_ret
        exact ⟨by rw [HR.out]; rfl, by show Below _ _ _; exact (HB.out.trans (HB1.out.mono HB.out.size)).alloc (Nat.le_trans HB.out.size HB1.out.size) _⟩
      · have hb0 : ((rowOf k).1 == s.toList) = false := by simp [hh]
        have HH := Lib.hid hh
        clear hh
        go_wp2_with (go_at_call 18; refine (table_any _ _).mono ?_; rintro e w1 ⟨rfl, hb⟩; have HB1 := Lib.hid hb; clear hb)
        go_roundw
        case rel => exact ⟨k + 1, by omega, by go_num, by show Below _ _ _; exact (HB.out.trans (HB1.out.mono HB.out.size)).alloc (Nat.le_trans HB.out.size HB1.out.size) _, fun c hc => by
          rcases Nat.lt_or_ge c k with h | h
          · exact HN.out c h
          · obtain rfl : c = k := by omega
            exact HH.out⟩
        case measure => simp [intOf]; omega
    · obtain rfl : k = 256 := by omega
      go_wp2
      go_ret
      exact ⟨by rw [codeOf_miss HN.out]; rfl, HB.out⟩
theorem opsfind_any (s : ByteArray) (w : World) :
    Calls Try.prog 14 #[.string s] w fun e w' => e = .returned (.int .i64 (codeOf s.toList)) ∧ Below w.heap.size w w' := by
  by_cases hs : s.toList = []
  · rw [hs, codeOf_nil]
    exact opsfind_nil s hs w
  · exact opsfind_some s hs w
end Go.Proofs.Ytgicbgeblgfnfaa
