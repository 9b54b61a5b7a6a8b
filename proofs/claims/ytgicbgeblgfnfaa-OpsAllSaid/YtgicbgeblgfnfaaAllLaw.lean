/-
  turnstilelaw6.OpsAll answers true at every argument, and turns nothing that was there.
-/
import Derived.Test.YtgicbgeblgfnfaaAll0
import Derived.Test.YtgicbgeblgfnfaaAll1
import Derived.Test.YtgicbgeblgfnfaaAll2
import Derived.Test.YtgicbgeblgfnfaaAll3
set_option maxRecDepth 100000
set_option maxHeartbeats 4000000
set_option linter.unusedSimpArgs false
set_option linter.unusedVariables false
namespace Go.Proofs.Ytgicbgeblgfnfaa
open Go Go.RowKit Lib
theorem all_out (c : Int) (h : c < 0 ∨ 255 < c) (A : Option Addr) (len cap : Nat) (w : World) :
    Calls Try.prog 5 #[.int .i64 c, .slice A len cap] w fun e w' => e = .returned (.bool true) ∧ Below w.heap.size w w' := by
  rcases h with h | h
  · go_enter Try.func5, Try.ntmps5
    go_wp2_with fail
    refine (alive_any _).mono ?_
    rintro e w1 ⟨rfl, hb1⟩
    have HB1 := Lib.hid hb1
    clear hb1
    go_wp2_with fail
    go_ret
    exact ⟨rfl, HB1.out⟩
  · have h2 : ¬ c < 0 := by omega
    go_enter Try.func5, Try.ntmps5
    go_wp2_with fail
    refine (alive_any _).mono ?_
    rintro e w1 ⟨rfl, hb1⟩
    have HB1 := Lib.hid hb1
    clear hb1
    go_wp2_with fail
    go_ret
    exact ⟨rfl, HB1.out⟩
theorem all_long (c : Int) (h0 : ¬ c < 0) (h1 : ¬ 255 < c) (A : Option Addr) (len cap : Nat) (h : 10 < len) (hm : len ≤ 9223372036854775807) (w : World) :
    Calls Try.prog 5 #[.int .i64 c, .slice A len cap] w fun e w' => e = .returned (.bool true) ∧ Below w.heap.size w w' := by
  go_enter Try.func5, Try.ntmps5
  go_wp2_with fail
  refine (alive_any _).mono ?_
  rintro e w1 ⟨rfl, hb1⟩
  have HB1 := Lib.hid hb1
  clear hb1
  go_wp2_with fail
  go_ret
  exact ⟨rfl, HB1.out⟩
theorem rowOf_noform {c : Int} (h : (rowOf c).1 = []) : rowOf c = ([], []) := by
  unfold rowOf at h ⊢
  split
  · rename_i r hr
    rw [hr] at h
    have hall : ∀ r ∈ rowL, r.2.1 ≠ [] := by decide
    exact absurd h (hall r (List.mem_of_find?_eq_some hr))
  · rfl
theorem all_any (c : Int) (A : Option Addr) (len cap : Nat) (l : List UInt8) (w : World) (hr : RdB w A len cap l) :
    Calls Try.prog 5 #[.int .i64 c, .slice A len cap] w fun e w' => e = .returned (.bool true) ∧ Below w.heap.size w w' := by
  by_cases ho : c < 0 ∨ 255 < c
  · exact all_out c ho A len cap w
  by_cases hl : 10 < len
  · exact all_long c (by omega) (by omega) A len cap hl hr.hmax w
  obtain ⟨k, rfl⟩ := Int.eq_ofNat_of_zero_le (show 0 ≤ c by omega)
  have hk : k < 256 := by omega
  by_cases hn : (rowOf k).1 = []
  · exact all_none k hk (rowOf_noform hn) A len cap l w hr (by omega)
  have hf := rowOf_forms k
  obtain ⟨nm, f, hrow⟩ : ∃ nm f, rowOf (k : Int) = (nm, f) := ⟨_, _, rfl⟩
  rw [hrow] at hf hn
  simp only [forms, List.mem_cons, List.not_mem_nil, or_false] at hf
  rcases hf with rfl | rfl | rfl | rfl | rfl | rfl | rfl | rfl | rfl | rfl
  · exact all_e k hk nm hrow hn A len cap l w hr (by omega)
  · exact all_b k hk nm hrow hn A len cap l w hr (by omega)
  · exact all_u k hk nm hrow hn A len cap l w hr (by omega)
  · exact all_s k hk nm hrow hn A len cap l w hr (by omega)
  · exact all_j k hk nm hrow hn A len cap l w hr (by omega)
  · exact all_f k hk nm hrow hn A len cap l w hr (by omega)
  · exact all_m k hk nm hrow hn A len cap l w hr (by omega)
  · exact all_c k hk nm hrow hn A len cap l w hr (by omega)
  · exact all_i k hk nm hrow hn A len cap l w hr (by omega)
  · exact all_ub k hk nm hrow hn A len cap l w hr (by omega)
end Go.Proofs.Ytgicbgeblgfnfaa
