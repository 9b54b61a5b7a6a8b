/-
  turnstilelaw6.OpsForms answers true at every argument, and turns nothing that was there.
-/
import Derived.Test.YtgicbgeblgfnfaaAlive
set_option maxRecDepth 100000
set_option maxHeartbeats 4000000
set_option linter.unusedSimpArgs false
set_option linter.unusedVariables false
namespace Go.Proofs.Ytgicbgeblgfnfaa
open Go Go.RowKit Lib
theorem forms_some (c : Int) (s : ByteArray) (w : World) (nm f : List UInt8) (hrow : rowOf c = (nm, f)) (hs : s.size ≤ 200) (hn : nm ≠ []) :
    Calls Try.prog 4 #[.int .i64 c, .string s] w fun e w' => e = .returned (.bool true) ∧ Below w.heap.size w w' := by
  have HF : ∀ W, Calls Try.prog 12 #[.int .i64 c] W fun e w' => e = .returned (.tuple #[.string ⟨nm.toArray⟩, .string ⟨f.toArray⟩]) ∧ Below W.heap.size W w' := fun W => by
    have := opsform_any c W
    rw [hrow] at this
    exact this
  have HX : ∀ W, Calls Try.prog 13 #[.int .i64 c] W fun e w' => e = .returned (.tuple #[.string ⟨nm.toArray⟩, .string ⟨f.toArray⟩]) ∧ Below W.heap.size W w' := fun W => by
    have := refform_any c W
    rw [hrow] at this
    exact this
  have HFD : ∀ W, Calls Try.prog 14 #[.string ⟨nm.toArray⟩] W fun e w' => e = .returned (.int .i64 c) ∧ Below W.heap.size W w' := fun W => by
    have h1 := opsfind_any ⟨nm.toArray⟩ W
    rw [show (ByteArray.mk nm.toArray).toList = nm from ByteArray.toList_mk _, codeOf_hit (c := c) (by rw [hrow]) hn] at h1
    exact h1
  obtain ⟨z, hz⟩ : ∃ z, z = codeOf s.toList := ⟨_, rfl⟩
  have HA : ∀ W, Calls Try.prog 14 #[.string s] W fun e w' => e = .returned (.int .i64 z) ∧ Below W.heap.size W w' := fun W => by rw [hz]; exact opsfind_any s W
  have HB : ∀ W, Calls Try.prog 15 #[.string s] W fun e w' => e = .returned (.int .i64 z) ∧ Below W.heap.size W w' := fun W => by rw [hz]; exact reffind_any s W
  have HF' := Lib.hid HF
  have HX' := Lib.hid HX
  have HFD' := Lib.hid HFD
  have HA' := Lib.hid HA
  have HB' := Lib.hid HB
  have e0 : nm.isEmpty = false := by cases nm <;> simp_all
  clear HF HX HFD HA HB hz hrow hn
  go_enter Try.func4, Try.ntmps4
  go_wp2_with fail
  refine (alive_any _).mono ?_
  rintro e w1 ⟨rfl, hb1⟩
  have HB1 := Lib.hid hb1
  clear hb1
  go_wp2_with fail
  refine (HF'.out _).mono ?_
  rintro e w2 ⟨rfl, hb2⟩
  have HB2 := Lib.hid (HB1.out.trans (hb2.mono HB1.out.size))
  clear hb2
  go_wp2_with fail
  refine (HX'.out _).mono ?_
  rintro e w3 ⟨rfl, hb3⟩
  have HB3 := Lib.hid (HB2.out.trans (hb3.mono HB2.out.size))
  clear hb3
  go_wp2_with fail
  refine (HA'.out _).mono ?_
  rintro e w4 ⟨rfl, hb4⟩
  have HB4 := Lib.hid (HB3.out.trans (hb4.mono HB3.out.size))
  clear hb4
  go_wp2_with fail
  refine (HB'.out _).mono ?_
  rintro e w5 ⟨rfl, hb5⟩
  have HB5 := Lib.hid (HB4.out.trans (hb5.mono HB4.out.size))
  clear hb5
  go_wp2_with fail
  refine (HFD'.out _).mono ?_
  rintro e w6 ⟨rfl, hb6⟩
  have HB6 := Lib.hid (HB5.out.trans (hb6.mono HB5.out.size))
  clear hb6
  go_wp2_with fail
  go_ret
  exact ⟨rfl, HB6.out⟩
theorem forms_none (c : Int) (s : ByteArray) (w : World) (hrow : rowOf c = ([], [])) (hs : s.size ≤ 200) :
    Calls Try.prog 4 #[.int .i64 c, .string s] w fun e w' => e = .returned (.bool true) ∧ Below w.heap.size w w' := by
  have HF : ∀ W, Calls Try.prog 12 #[.int .i64 c] W fun e w' => e = .returned (.tuple #[.string ⟨#[]⟩, .string ⟨#[]⟩]) ∧ Below W.heap.size W w' := fun W => by
    have := opsform_any c W
    rw [hrow] at this
    exact this
  have HX : ∀ W, Calls Try.prog 13 #[.int .i64 c] W fun e w' => e = .returned (.tuple #[.string ⟨#[]⟩, .string ⟨#[]⟩]) ∧ Below W.heap.size W w' := fun W => by
    have := refform_any c W
    rw [hrow] at this
    exact this
  obtain ⟨z, hz⟩ : ∃ z, z = codeOf s.toList := ⟨_, rfl⟩
  have HA : ∀ W, Calls Try.prog 14 #[.string s] W fun e w' => e = .returned (.int .i64 z) ∧ Below W.heap.size W w' := fun W => by rw [hz]; exact opsfind_any s W
  have HB : ∀ W, Calls Try.prog 15 #[.string s] W fun e w' => e = .returned (.int .i64 z) ∧ Below W.heap.size W w' := fun W => by rw [hz]; exact reffind_any s W
  have HF' := Lib.hid HF
  have HX' := Lib.hid HX
  have HA' := Lib.hid HA
  have HB' := Lib.hid HB
  clear HF HX HA HB hz hrow
  go_enter Try.func4, Try.ntmps4
  go_wp2_with fail
  refine (alive_any _).mono ?_
  rintro e w1 ⟨rfl, hb1⟩
  have HB1 := Lib.hid hb1
  clear hb1
  go_wp2_with fail
  refine (HF'.out _).mono ?_
  rintro e w2 ⟨rfl, hb2⟩
  have HB2 := Lib.hid (HB1.out.trans (hb2.mono HB1.out.size))
  clear hb2
  go_wp2_with fail
  refine (HX'.out _).mono ?_
  rintro e w3 ⟨rfl, hb3⟩
  have HB3 := Lib.hid (HB2.out.trans (hb3.mono HB2.out.size))
  clear hb3
  go_wp2_with fail
  refine (HA'.out _).mono ?_
  rintro e w4 ⟨rfl, hb4⟩
  have HB4 := Lib.hid (HB3.out.trans (hb4.mono HB3.out.size))
  clear hb4
  go_wp2_with fail
  refine (HB'.out _).mono ?_
  rintro e w5 ⟨rfl, hb5⟩
  have HB5 := Lib.hid (HB4.out.trans (hb5.mono HB4.out.size))
  clear hb5
  go_wp2_with fail
  go_ret
  exact ⟨rfl, HB5.out⟩
theorem forms_long (c : Int) (s : ByteArray) (w : World) (hm : s.size ≤ 9223372036854775807) (hs : 200 < s.size) :
    Calls Try.prog 4 #[.int .i64 c, .string s] w fun e w' => e = .returned (.bool true) ∧ Below w.heap.size w w' := by
  go_enter Try.func4, Try.ntmps4
  go_wp2_with fail
  refine (alive_any _).mono ?_
  rintro e w1 ⟨rfl, hb1⟩
  have HB1 := Lib.hid hb1
  clear hb1
  go_wp2_with fail
  go_ret
  exact ⟨rfl, HB1.out⟩
theorem rowOf_noform' {c : Int} (h : (rowOf c).1 = []) : rowOf c = ([], []) := by
  unfold rowOf at h ⊢
  split
  · rename_i r hr
    rw [hr] at h
    have hall : ∀ r ∈ rowL, r.2.1 ≠ [] := by decide
    exact absurd h (hall r (List.mem_of_find?_eq_some hr))
  · rfl
theorem forms_any (c : Int) (s : ByteArray) (w : World) (hm : s.size ≤ 9223372036854775807) :
    Calls Try.prog 4 #[.int .i64 c, .string s] w fun e w' => e = .returned (.bool true) ∧ Below w.heap.size w w' := by
  by_cases hs : s.size ≤ 200
  · by_cases hn : (rowOf c).1 = []
    · exact forms_none c s w (rowOf_noform' hn) hs
    · exact forms_some c s w _ _ rfl hs hn
  · exact forms_long c s w hm (by omega)
end Go.Proofs.Ytgicbgeblgfnfaa
