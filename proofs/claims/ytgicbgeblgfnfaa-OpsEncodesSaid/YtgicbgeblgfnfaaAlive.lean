/-
  The walk of turnstilelaw6.alive: it answers true.
-/
import Derived.Test.YtgicbgeblgfnfaaDecP
import Derived.Test.YtgicbgeblgfnfaaOpsA
set_option maxRecDepth 100000
set_option maxHeartbeats 4000000
set_option linter.unusedSimpArgs false
set_option linter.unusedVariables false
namespace Go.Proofs.Ytgicbgeblgfnfaa
open Go Go.RowKit Lib
theorem alive_dec (w : World) : Calls Try.prog 10 #[.slice (some ⟨w.heap.size, 0, none⟩) 2 2, .int .i64 0] (w.alloc (.cells #[.int .u8 16, .int .u8 255] 5))
    fun e w' => e = .returned (.tuple #[.agg #[.int .i64 16, .int .i64 (-1), .int .i64 0, .int .i64 2], .bool true]) ∧ Below (w.heap.size + 1) (w.alloc (.cells #[.int .u8 16, .int .u8 255] 5)) w' := by
  have h := dec_any (rdB_new w [16, 255] 5 2 rfl (by simp)) 0
  have e : decV (decP [16, 255] 0) = .tuple #[.agg #[.int .i64 16, .int .i64 (-1), .int .i64 0, .int .i64 2], .bool true] := by rfl
  rw [e] at h
  simpa [bV] using h
theorem alive_form (w : World) : Calls Try.prog 12 #[.int .i64 184] w
    fun e w' => e = .returned (.tuple #[.string ⟨#[105, 110, 118, 111, 107, 101, 115, 116, 97, 116, 105, 99]⟩, .string ⟨#[109]⟩]) ∧ Below w.heap.size w w' := opsform_any 184 w
theorem alive_find (w : World) : Calls Try.prog 14 #[.string ⟨#[105, 97, 100, 100]⟩] w fun e w' => e = .returned (.int .i64 96) ∧ Below w.heap.size w w' := by
  have h := opsfind_any ⟨#[105, 97, 100, 100]⟩ w
  rw [show (ByteArray.mk #[105, 97, 100, 100]).toList = [105, 97, 100, 100] from ByteArray.toList_mk _] at h
  exact h
theorem alive_any (w : World) : Calls Try.prog 9 #[] w fun e w' => e = .returned (.bool true) ∧ Below w.heap.size w w' := by
  go_enter Try.func9, Try.ntmps9
  go_wp2_with fail
  refine (alive_dec _).mono ?_
  rintro e w1 ⟨rfl, hb1⟩
  have HB1 := Lib.hid hb1
  clear hb1
  go_wp2_with fail
  refine (alive_form _).mono ?_
  rintro e w2 ⟨rfl, hb2⟩
  have HB2 := Lib.hid hb2
  have c0 := hb2.cell (p := ⟨w1.heap.size, 0, none⟩) (by simp)
  have c1 := hb2.cell (p := ⟨w1.heap.size, 1, none⟩) (by simp)
  have c2 := hb2.cell (p := ⟨w1.heap.size, 2, none⟩) (by simp)
  have c3 := hb2.cell (p := ⟨w1.heap.size, 3, none⟩) (by simp)
  simp [go_sem] at c0 c1 c2 c3
  clear hb2
  go_wp2_with (go_at_call 14; refine (alive_find _).mono ?_; rintro e w3 ⟨rfl, hb3⟩; have HB3 := Lib.hid hb3; clear hb3)
  go_ret
  refine ⟨rfl, ?_⟩
  have B1 : Below w.heap.size w w1 := ((Below.refl _ _).alloc (Nat.le_refl _) _).trans (HB1.out.mono (by omega))
  have B2 : Below w.heap.size w w2 := (B1.alloc B1.size _).trans (HB2.out.mono (by have := B1.size; simp; omega))
  exact B2.trans (HB3.out.mono B2.size)
end Go.Proofs.Ytgicbgeblgfnfaa
