/-
  What a place of a code is decoded as, in plain lists; ops.Decode answers so.
-/
import Derived.Test.YtgicbgeblgfnfaaKit3
import Derived.Test.YtgicbgeblgfnfaaDec0
import Derived.Test.YtgicbgeblgfnfaaDec1
import Derived.Test.YtgicbgeblgfnfaaDec2
import Derived.Test.YtgicbgeblgfnfaaDec3
set_option maxRecDepth 100000
set_option maxHeartbeats 1000000
set_option linter.unusedSimpArgs false
set_option linter.unusedVariables false
namespace Go.Proofs.Ytgicbgeblgfnfaa
open Go Go.RowKit Lib
/-- An instruction: its code, its operands, its length. -/
abbrev OpD := Int × Int × Int × Int
def decAt (l : List UInt8) (p : Nat) : Option OpD :=
  let c : Int := byt l p
  if (rowOf c).1 = [] then none
  else if (rowOf c).2 = [] then some (c, 0, 0, 1)
  else if (rowOf c).2 = [98] then if l.length < p + 2 then none else some (c, s8 (byt l (p + 1)), 0, 2)
  else if (rowOf c).2 = [117] then if l.length < p + 2 then none else some (c, byt l (p + 1), 0, 2)
  else if (rowOf c).2 = [115] ∨ (rowOf c).2 = [106] then if l.length < p + 3 then none else some (c, s16 (256 * (byt l (p + 1) : Int) + byt l (p + 2)), 0, 3)
  else if (rowOf c).2 = [105] then if l.length < p + 5 then none else if byt l (p + 4) = 0 then some (c, 256 * (byt l (p + 1) : Int) + byt l (p + 2), byt l (p + 3), 5) else none
  else if (rowOf c).2 = [117, 98] then if l.length < p + 3 then none else some (c, byt l (p + 1), s8 (byt l (p + 2)), 3)
  else if l.length < p + 3 then none else some (c, 256 * (byt l (p + 1) : Int) + byt l (p + 2), 0, 3)
def decP (l : List UInt8) (at_ : Int) : Option OpD := if at_ < 0 ∨ (l.length : Int) ≤ at_ then none else decAt l at_.toNat
def decV : Option OpD → Value
  | none => .tuple #[.agg #[.int .i64 0, .int .i64 0, .int .i64 0, .int .i64 0], .bool false]
  | some (c, a, b, n) => .tuple #[.agg #[.int .i64 c, .int .i64 a, .int .i64 b, .int .i64 n], .bool true]
def forms : List (List UInt8) := [[], [98], [117], [115], [106], [102], [109], [99], [105], [117, 98]]
theorem rowOf_forms (c : Int) : (rowOf c).2 ∈ forms := by
  unfold rowOf
  split
  · rename_i r hr
    have hm := List.mem_of_find?_eq_some hr
    have hall : ∀ r ∈ rowL, r.2.2 ∈ forms := by decide
    exact hall r hm
  · decide
theorem dec_any {w : World} {A : Option Addr} {len cap : Nat} {l : List UInt8} (h : RdB w A len cap l) (at_ : Int) :
    Calls Try.prog 10 #[.slice A len cap, .int .i64 at_] w fun e w' => e = .returned (decV (decP l at_)) ∧ Below w.heap.size w w' := by
  by_cases ho : at_ < 0 ∨ (len : Int) ≤ at_
  · rw [decP, if_pos (by rw [← h.hlen]; exact ho)]
    exact dec_out A len cap at_ w h.hmax ho
  · rw [decP, if_neg (by rw [← h.hlen]; exact ho)]
    obtain ⟨p, rfl⟩ := Int.eq_ofNat_of_zero_le (show 0 ≤ at_ by omega)
    have hp : p < len := by omega
    obtain ⟨b, off, rfl, hb, hc⟩ := h.hat (by omega)
    have hm := h.hmax
    have hcap := h.hle
    have hlen := h.hlen
    show Calls _ _ _ _ fun e w' => e = .returned (decV (decAt l p)) ∧ _
    have hf := rowOf_forms (byt l p)
    have hB := byt_lt l
    obtain ⟨nm, f, hr⟩ : ∃ nm f, rowOf (byt l p) = (nm, f) := ⟨_, _, rfl⟩
    rw [hr] at hf
    simp only [forms, List.mem_cons, List.not_mem_nil, or_false] at hf
    by_cases hn : nm = []
    · have e : decAt l p = none := by unfold decAt; simp [hr, hn]
      rw [e]
      exact dec_none b off len cap p (byt l p) w hp hcap hm (hB p) (by rw [hr]; exact hn) (hc p hp) hb
    rcases hf with rfl | rfl | rfl | rfl | rfl | rfl | rfl | rfl | rfl | rfl
    · have e : decAt l p = some ((byt l p : Int), 0, 0, 1) := by unfold decAt; simp [hr, hn]
      rw [e]
      exact dec__ok b off len cap p (byt l p) nm w hp hcap hm (hB p) hr hn (hc p hp) hb (by omega)
    · by_cases hl : l.length < p + 2
      · have e : decAt l p = none := by unfold decAt; simp [hr, hn, hl]
        rw [e]
        exact dec_b_short b off len cap p (byt l p) nm w hp hcap hm (hB p) hr hn (hc p hp) hb (by omega) (by omega)
      · have e : decAt l p = some ((byt l p : Int), s8 (byt l (p + 1)), 0, 2) := by unfold decAt; simp [hr, hn, hl]
        rw [e]
        exact dec_b_ok b off len cap p (byt l p) (byt l (p + 1)) nm w hp hcap hm (hB p) (hB _) hr hn (hc p hp) hb (by omega) (hc _ (by omega))
    · by_cases hl : l.length < p + 2
      · have e : decAt l p = none := by unfold decAt; simp [hr, hn, hl]
        rw [e]
        exact dec_u_short b off len cap p (byt l p) nm w hp hcap hm (hB p) hr hn (hc p hp) hb (by omega) (by omega)
      · have e : decAt l p = some ((byt l p : Int), (byt l (p + 1) : Int), 0, 2) := by unfold decAt; simp [hr, hn, hl]
        rw [e]
        exact dec_u_ok b off len cap p (byt l p) (byt l (p + 1)) nm w hp hcap hm (hB p) (hB _) hr hn (hc p hp) hb (by omega) (hc _ (by omega))
    · by_cases hl : l.length < p + 3
      · have e : decAt l p = none := by unfold decAt; simp [hr, hn, hl]
        rw [e]
        exact dec_s_short b off len cap p (byt l p) nm w hp hcap hm (hB p) hr hn (hc p hp) hb (by omega) (by omega)
      · have e : decAt l p = some ((byt l p : Int), s16 (256 * (byt l (p + 1) : Int) + byt l (p + 2)), 0, 3) := by unfold decAt; simp [hr, hn, hl]
        rw [e]
        exact dec_s_ok b off len cap p (byt l p) (byt l (p + 1)) (byt l (p + 2)) nm w hp hcap hm (hB p) (hB _) (hB _) hr hn (hc p hp) hb (by omega) (hc _ (by omega)) (hc _ (by omega))
    · by_cases hl : l.length < p + 3
      · have e : decAt l p = none := by unfold decAt; simp [hr, hn, hl]
        rw [e]
        exact dec_j_short b off len cap p (byt l p) nm w hp hcap hm (hB p) hr hn (hc p hp) hb (by omega) (by omega)
      · have e : decAt l p = some ((byt l p : Int), s16 (256 * (byt l (p + 1) : Int) + byt l (p + 2)), 0, 3) := by unfold decAt; simp [hr, hn, hl]
        rw [e]
        exact dec_j_ok b off len cap p (byt l p) (byt l (p + 1)) (byt l (p + 2)) nm w hp hcap hm (hB p) (hB _) (hB _) hr hn (hc p hp) hb (by omega) (hc _ (by omega)) (hc _ (by omega))
    · by_cases hl : l.length < p + 3
      · have e : decAt l p = none := by unfold decAt; simp [hr, hn, hl]
        rw [e]
        exact dec_f_short b off len cap p (byt l p) nm w hp hcap hm (hB p) hr hn (hc p hp) hb (by omega) (by omega)
      · have e : decAt l p = some ((byt l p : Int), 256 * (byt l (p + 1) : Int) + byt l (p + 2), 0, 3) := by unfold decAt; simp [hr, hn, hl]
        rw [e]
        exact dec_f_ok b off len cap p (byt l p) (byt l (p + 1)) (byt l (p + 2)) nm w hp hcap hm (hB p) (hB _) (hB _) hr hn (hc p hp) hb (by omega) (hc _ (by omega)) (hc _ (by omega))
    · by_cases hl : l.length < p + 3
      · have e : decAt l p = none := by unfold decAt; simp [hr, hn, hl]
        rw [e]
        exact dec_m_short b off len cap p (byt l p) nm w hp hcap hm (hB p) hr hn (hc p hp) hb (by omega) (by omega)
      · have e : decAt l p = some ((byt l p : Int), 256 * (byt l (p + 1) : Int) + byt l (p + 2), 0, 3) := by unfold decAt; simp [hr, hn, hl]
        rw [e]
        exact dec_m_ok b off len cap p (byt l p) (byt l (p + 1)) (byt l (p + 2)) nm w hp hcap hm (hB p) (hB _) (hB _) hr hn (hc p hp) hb (by omega) (hc _ (by omega)) (hc _ (by omega))
    · by_cases hl : l.length < p + 3
      · have e : decAt l p = none := by unfold decAt; simp [hr, hn, hl]
        rw [e]
        exact dec_c_short b off len cap p (byt l p) nm w hp hcap hm (hB p) hr hn (hc p hp) hb (by omega) (by omega)
      · have e : decAt l p = some ((byt l p : Int), 256 * (byt l (p + 1) : Int) + byt l (p + 2), 0, 3) := by unfold decAt; simp [hr, hn, hl]
        rw [e]
        exact dec_c_ok b off len cap p (byt l p) (byt l (p + 1)) (byt l (p + 2)) nm w hp hcap hm (hB p) (hB _) (hB _) hr hn (hc p hp) hb (by omega) (hc _ (by omega)) (hc _ (by omega))
    · by_cases hl : l.length < p + 5
      · have e : decAt l p = none := by unfold decAt; simp [hr, hn, hl]
        rw [e]
        exact dec_i_short b off len cap p (byt l p) nm w hp hcap hm (hB p) hr hn (hc p hp) hb (by omega) (by omega)
      · by_cases hz : byt l (p + 4) = 0
        · have e : decAt l p = some ((byt l p : Int), 256 * (byt l (p + 1) : Int) + byt l (p + 2), (byt l (p + 3) : Int), 5) := by unfold decAt; simp [hr, hn, hl, hz]
          rw [e]
          have h4 := hc (p + 4) (by omega)
          rw [hz] at h4
          exact dec_i_ok b off len cap p (byt l p) (byt l (p + 1)) (byt l (p + 2)) (byt l (p + 3)) nm w hp hcap hm (hB p) (hB _) (hB _) (hB _) hr hn (hc p hp) hb (by omega) (hc _ (by omega)) (hc _ (by omega)) (hc _ (by omega)) h4
        · have e : decAt l p = none := by unfold decAt; simp [hr, hn, hl, hz]
          rw [e]
          exact dec_i_bad b off len cap p (byt l p) (byt l (p + 1)) (byt l (p + 2)) (byt l (p + 3)) (byt l (p + 4)) nm w hp hcap hm (hB p) (hB _) (hB _) (hB _) (hB _) hr hn (hc p hp) hb (by omega) (hc _ (by omega)) (hc _ (by omega)) (hc _ (by omega)) (hc _ (by omega)) hz
    · by_cases hl : l.length < p + 3
      · have e : decAt l p = none := by unfold decAt; simp [hr, hn, hl]
        rw [e]
        by_cases hl2 : l.length < p + 2
        · exact dec_ub_short b off len cap p (byt l p) nm w hp hcap hm (hB p) hr hn (hc p hp) hb (by omega) (by omega)
        · exact dec_ub_short2 b off len cap p (byt l p) (byt l (p + 1)) nm w hp hcap hm (hB p) (hB _) hr hn (hc p hp) hb (by omega) (by omega) (hc _ (by omega))
      · have e : decAt l p = some ((byt l p : Int), (byt l (p + 1) : Int), s8 (byt l (p + 2)), 3) := by unfold decAt; simp [hr, hn, hl]
        rw [e]
        exact dec_ub_ok b off len cap p (byt l p) (byt l (p + 1)) (byt l (p + 2)) nm w hp hcap hm (hB p) (hB _) (hB _) hr hn (hc p hp) hb (by omega) (hc _ (by omega)) (hc _ (by omega))
end Go.Proofs.Ytgicbgeblgfnfaa
