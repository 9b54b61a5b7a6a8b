/-
  The walks of the reference's small functions on numbers: power, Signed, Put, Size, within; of ops.within.
-/
import Derived.Test.YtgicbgeblgfnfaaKit
import Derived.Lib.Hide
set_option maxRecDepth 100000
set_option maxHeartbeats 4000000
set_option linter.unusedSimpArgs false
set_option linter.unusedVariables false
namespace Go.Proofs.Ytgicbgeblgfnfaa
open Go Go.RowKit Lib
def pw (n : Nat) : Nat := 2 ^ n
theorem pw_succ (k : Nat) : pw (k + 1) = 2 * pw k := by unfold pw; rw [Nat.pow_succ]; omega
theorem pw_le (k : Nat) (h : k ≤ 61) : pw k ≤ 2305843009213693952 := Nat.pow_le_pow_right (n := 2) (by omega) h
theorem power_any (n : Nat) (hn : n ≤ 61) (w : World) :
    Calls Try.prog 29 #[.int .i64 n] w fun e w' => e = .returned (.int .i64 ((pw n : Nat) : Int)) ∧ w = w' := by
  go_enter Try.func29, Try.ntmps29
  go_wp2
  go_loop [3, 4] (fun p i => ∃ k P : Nat, k ≤ n ∧ i = .int .i64 k ∧ p = .int .i64 P ∧ Hid (P = pw k)) (fun _ i => n - (intOf i).toNat)
  case atStart => exact ⟨0, 1, by omega, rfl, rfl, rfl⟩
  case round =>
    obtain ⟨k, P, hk, rfl, rfl, HP⟩ := hrel
    have hb : P ≤ 2305843009213693952 := by rw [HP.out]; exact pw_le k (by omega)
    by_cases hlt : k < n
    · go_wp2
      go_round
      case rel => exact ⟨k + 1, 2 * P, by omega, by go_num, by go_num, by show 2 * P = pw (k + 1); rw [HP.out, pw_succ]⟩
      case measure => simp [intOf]; omega
    · obtain rfl : k = n := by omega
      go_wp2
      go_ret
      exact ⟨by rw [← HP.out]; rfl, rfl⟩
theorem power8 (w : World) : Calls Try.prog 29 #[.int .i64 8] w fun e w' => e = .returned (.int .i64 256) ∧ w = w' := power_any 8 (by omega) w
theorem power16 (w : World) : Calls Try.prog 29 #[.int .i64 16] w fun e w' => e = .returned (.int .i64 65536) ∧ w = w' := power_any 16 (by omega) w
theorem and255 (n : Int) (h0 : 0 ≤ n) (h1 : n < 256) : bits .and .i64 n 255 = n := by
  obtain ⟨k, rfl⟩ := Int.eq_ofNat_of_zero_le h0
  have e : (k : Int).toNat = k := rfl
  show IntKind.i64.wrap ((BitVec.ofInt 64 (k : Int) &&& BitVec.ofInt 64 255).toNat : Int) = _
  have h2 : (BitVec.ofInt 64 (k : Int)).toNat = k := by rw [BitVec.ofInt_natCast, BitVec.toNat_ofNat]; omega
  have h3 : (BitVec.ofInt 64 255).toNat = 2 ^ 8 - 1 := by decide
  rw [BitVec.toNat_and, h2, h3, Nat.and_two_pow_sub_one_of_lt_two_pow (by omega), IntKind.wrap_i64]
  omega
theorem and65535 (n : Int) (h0 : 0 ≤ n) (h1 : n < 65536) : bits .and .i64 n 65535 = n := by
  obtain ⟨k, rfl⟩ := Int.eq_ofNat_of_zero_le h0
  show IntKind.i64.wrap ((BitVec.ofInt 64 (k : Int) &&& BitVec.ofInt 64 65535).toNat : Int) = _
  have h2 : (BitVec.ofInt 64 (k : Int)).toNat = k := by rw [BitVec.ofInt_natCast, BitVec.toNat_ofNat]; omega
  have h3 : (BitVec.ofInt 64 65535).toNat = 2 ^ 16 - 1 := by decide
  rw [BitVec.toNat_and, h2, h3, Nat.and_two_pow_sub_one_of_lt_two_pow (by omega), IntKind.wrap_i64]
  omega
def s8 (n : Int) : Int := if 128 ≤ n then n - 256 else n
def s16 (n : Int) : Int := if 32768 ≤ n then n - 65536 else n
theorem signed8_any (n : Int) (h0 : 0 ≤ n) (h1 : n < 256) (w : World) :
    Calls Try.prog 21 #[.int .i64 n, .int .i64 8] w fun e w' => e = .returned (.int .i64 (s8 n)) ∧ w = w' := by
  have H := Lib.hid (and255 n h0 h1)
  go_enter Try.func21, Try.ntmps21
  go_wp2_with (go_at_call 29; refine (power8 _).mono ?_; rintro e w1 ⟨rfl, rfl⟩)
  all_goals go_ret
  all_goals simp only [H.out] at *
  · refine ⟨?_, trivial⟩
    show Ending.returned (.int .i64 (wrap64 _)) = _
    rw [wrap64, s8, if_pos (by omega)]
    congr 2
    omega
  · refine ⟨?_, trivial⟩
    show Ending.returned (.int .i64 _) = _
    rw [s8, if_neg (by omega)]
theorem signed16_any (n : Int) (h0 : 0 ≤ n) (h1 : n < 65536) (w : World) :
    Calls Try.prog 21 #[.int .i64 n, .int .i64 16] w fun e w' => e = .returned (.int .i64 (s16 n)) ∧ w = w' := by
  have H := Lib.hid (and65535 n h0 h1)
  go_enter Try.func21, Try.ntmps21
  go_wp2_with (go_at_call 29; refine (power16 _).mono ?_; rintro e w1 ⟨rfl, rfl⟩)
  all_goals go_ret
  all_goals simp only [H.out] at *
  · refine ⟨?_, trivial⟩
    show Ending.returned (.int .i64 (wrap64 _)) = _
    rw [wrap64, s16, if_pos (by omega)]
    congr 2
    omega
  · refine ⟨?_, trivial⟩
    show Ending.returned (.int .i64 _) = _
    rw [s16, if_neg (by omega)]
theorem put2_any (v : Int) (w : World) :
    Calls Try.prog 26 #[.int .i64 v, .int .i64 2] w fun e w' => ∃ r, e = .returned r ∧ w'.ownsRow w.heap.size 5 1 r 2 [.int .u8 (v / 256 % 256), .int .u8 (v % 256)] ∧ Below w.heap.size w w' := by
  go_enter Try.func26, Try.ntmps26
  go_wp2
  refine wp_loop_rounds 3 ?_
  rw [rounds_succ]
  go_wp2_with (at_builtin; refine wpl_append rfl _ _ 22 rfl Try.underlying22 info_u8 rfl (by omega) w.heap.size rfl (World.ownsRow_nil _ _ _ _) rfl rfl (cells_new _ _ _) (by simp [Value.oneCell']) (by simp [maxLen]) (by omega) (by simp) ?_; intro v1 w1 ho1 hg1 hb1)
  rw [rounds_succ]
  go_wp2_with (at_builtin; refine wpl_append rfl _ _ 22 rfl Try.underlying22 info_u8 rfl (by omega) w.heap.size rfl (ho1.alloc _) rfl rfl (cells_new _ _ _) (by simp [Value.oneCell']) (by simp [maxLen]) (by omega) (by have := hb1.size; simp at this ⊢; omega) ?_; intro v2 w2 ho2 hg2 hb2)
  rw [rounds_succ]
  go_wp2
  go_ret
  refine ⟨_, rfl, ho2, ?_⟩
  exact (((Below.refl _ _).alloc (Nat.le_refl _) _).trans hb1).alloc (by have := hb1.size; simp at this; omega) _ |>.trans hb2
theorem put1_any (v : Int) (w : World) :
    Calls Try.prog 26 #[.int .i64 v, .int .i64 1] w fun e w' => ∃ r, e = .returned r ∧ w'.ownsRow w.heap.size 5 1 r 1 [.int .u8 (v % 256)] ∧ Below w.heap.size w w' := by
  go_enter Try.func26, Try.ntmps26
  go_wp2
  refine wp_loop_rounds 2 ?_
  rw [rounds_succ]
  go_wp2_with (at_builtin; refine wpl_append rfl _ _ 22 rfl Try.underlying22 info_u8 rfl (by omega) w.heap.size rfl (World.ownsRow_nil _ _ _ _) rfl rfl (cells_new _ _ _) (by simp [Value.oneCell']) (by simp [maxLen]) (by omega) (by simp) ?_; intro v1 w1 ho1 hg1 hb1)
  rw [rounds_succ]
  go_wp2
  go_ret
  refine ⟨_, rfl, ho1, ?_⟩
  exact ((Below.refl _ _).alloc (Nat.le_refl _) _).trans hb1
/-- Whether a number is in an operand's range. -/
def wthn (c n : Int) : Bool :=
  if c = 98 then decide (-128 ≤ n ∧ n ≤ 127) else if c = 117 then decide (0 ≤ n ∧ n ≤ 255) else if c = 115 ∨ c = 106 then decide (-32768 ≤ n ∧ n ≤ 32767) else decide (0 ≤ n ∧ n ≤ 65535)
theorem wrap_i8 (n : Int) : IntKind.i8.wrap n = (n + 128) % 256 - 128 := by
  show (if (true && decide (n % 256 ≥ 128)) = true then n % 256 - 256 else n % 256) = _
  by_cases h : n % 256 ≥ 128 <;> simp [h] <;> omega
theorem wrap_i16 (n : Int) : IntKind.i16.wrap n = (n + 32768) % 65536 - 32768 := by
  show (if (true && decide (n % 65536 ≥ 32768)) = true then n % 65536 - 65536 else n % 65536) = _
  by_cases h : n % 65536 ≥ 32768 <;> simp [h] <;> omega
theorem fix_s8 (x : Nat) (h : x < 256) : wrap64 (IntKind.i8.wrap (x : Int)) = s8 x := by
  rw [wrap_i8, wrap64, s8]
  split <;> omega
theorem or_bytes (a b : Nat) (ha : a < 256) (hb : b < 256) : a * 256 ||| b = 256 * a + b := by
  have h := Nat.two_pow_add_eq_or_of_lt (i := 8) (b := b) (by omega) a
  rw [Nat.mul_comm a 256]
  exact h.symm
theorem fix_or64 (a b : Nat) (ha : a < 256) (hb : b < 256) : bits .or .i64 ((a : Int) * 256) b = 256 * (a : Int) + b := by
  show IntKind.i64.wrap ((BitVec.ofInt 64 ((a : Int) * 256) ||| BitVec.ofInt 64 (b : Int)).toNat : Int) = _
  have h1 : (BitVec.ofInt 64 ((a : Int) * 256)).toNat = a * 256 := by
    rw [show (a : Int) * 256 = ((a * 256 : Nat) : Int) from by omega, BitVec.ofInt_natCast, BitVec.toNat_ofNat]
    omega
  have h2 : (BitVec.ofInt 64 (b : Int)).toNat = b := by rw [BitVec.ofInt_natCast, BitVec.toNat_ofNat]; omega
  rw [BitVec.toNat_or, h1, h2, or_bytes a b ha hb, IntKind.wrap_i64]
  omega
theorem fix_or16 (a b : Nat) (ha : a < 256) (hb : b < 256) : bits .or .u16 ((a : Int) * 256) b = 256 * (a : Int) + b := by
  show IntKind.u16.wrap ((BitVec.ofInt 16 ((a : Int) * 256) ||| BitVec.ofInt 16 (b : Int)).toNat : Int) = _
  have h1 : (BitVec.ofInt 16 ((a : Int) * 256)).toNat = a * 256 := by
    rw [show (a : Int) * 256 = ((a * 256 : Nat) : Int) from by omega, BitVec.ofInt_natCast, BitVec.toNat_ofNat]
    omega
  have h2 : (BitVec.ofInt 16 (b : Int)).toNat = b := by rw [BitVec.ofInt_natCast, BitVec.toNat_ofNat]; omega
  rw [BitVec.toNat_or, h1, h2, or_bytes a b ha hb, IntKind.wrap_u16]
  omega
theorem fix_s16 (a b : Nat) (ha : a < 256) (hb : b < 256) : wrap64 (IntKind.i16.wrap (bits .or .u16 ((a : Int) * 256) b)) = s16 (256 * (a : Int) + b) := by
  rw [fix_or16 a b ha hb, wrap_i16, wrap64, s16]
  split <;> omega
theorem within_any (c n : Int) (w : World) :
    Calls Try.prog 24 #[.int .i32 c, .int .i64 n] w fun e w' => e = .returned (.bool (wthn c n)) ∧ w = w' := by
  go_enter Try.func24, Try.ntmps24
  go_wp2
  all_goals
    go_ret
    refine ⟨?_, rfl⟩
    simp only [beq_iff_eq, beq_eq_false_iff_ne, ne_eq] at *
    simp only [wthn, *]
    show Ending.returned (.bool _) = _
    congr 2
    rw [Bool.eq_iff_iff]
    simp [wrap64, wrap_i8, wrap_i16, IntKind.wrap_u16]
    try omega
theorem refwithin_any (n a b : Int) (w : World) :
    Calls Try.prog 25 #[.int .i64 n, .int .i64 a, .int .i64 b] w fun e w' => e = .returned (.bool (decide (a ≤ n ∧ n ≤ b))) ∧ w = w' := by
  go_enter Try.func25, Try.ntmps25
  go_wp2
  all_goals
    go_ret
    refine ⟨?_, rfl⟩
    simp
    try omega
end Go.Proofs.Ytgicbgeblgfnfaa
