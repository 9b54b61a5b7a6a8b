/-
  General small laws: 'string(b)' of a slice of bytes that reads as a list; a part of such a slice.
-/
import Derived.Test.YtgicbgeblgfnfaaKit4
import Derived.Laws.BytesArg
set_option linter.unusedSimpArgs false
set_option linter.unusedVariables false
namespace Go.Proofs.Ytgicbgeblgfnfaa
open Go Go.RowKit Lib
theorem strOf_bytes (l : List UInt8) : strOfNums (l.map fun x => (x.toNat : Int)) = ⟨l.toArray⟩ := by
  unfold strOfNums
  congr 1
  rw [List.map_map]
  congr 1
  conv => rhs; rw [← List.map_id l]
  apply List.map_congr_left
  intro x _
  simp
theorem RdB.str {w : World} {A : Option Addr} {len cap : Nat} {l : List UInt8} (h : RdB w A len cap l) : (convert 22 9 (.slice A len cap)).run Try.prog w = .ok (.string ⟨l.toArray⟩) w := by
  rcases Nat.eq_zero_or_pos len with h0 | h0
  · have hl : l = [] := List.eq_nil_of_length_eq_zero (by have := h.hlen; omega)
    subst hl
    subst h0
    rw [run_convert_bytes_string (P := Try.prog) w 22 9 5 A 0 cap Try.underlying22 Try.underlying5 Try.underlying9]
    rcases A with _ | a
    · simp [Conv.bytesToString]
      rfl
    · have := run_bytesToString (P := Try.prog) w a 0 cap [] (by simpa using run_loadCells_list (P := Try.prog) w a [] (fun j v hj => by simp at hj))
      rw [this]
      rfl
  · obtain ⟨b, off, rfl, _, hc⟩ := h.hat h0
    have := run_convert_bytes_arg (P := Try.prog) w 22 5 Try.underlying22 Try.underlying5 b off len cap (l.map fun x => (x.toNat : Int)) (by simpa using h.hlen.symm) (fun i hi => by
      rw [hc i hi]
      have hi2 : i < l.length := by have := h.hlen; omega
      simp [byt, List.getD, List.getElem?_map, List.getElem?_eq_getElem hi2]) 9 Try.underlying9
    rw [this, strOf_bytes]
/-- A part of such a slice. -/
theorem RdB.part {w : World} {b off len cap : Nat} {l : List UInt8} (h : RdB w (some ⟨b, off, none⟩) len cap l) (p n : Nat) (hp : p + n ≤ len) (h1 : 0 < n) : RdB w (some ⟨b, off + p, none⟩) n (cap - p) ((l.drop p).take n) := by
  have h2 := h.hlen
  have h3 := h.hle
  have h4 := h.hmax
  refine ⟨by simp; omega, by omega, by omega, fun _ => ?_⟩
  obtain ⟨b', off', e, hlt, hc⟩ := h.hat (by omega)
  injection e with e
  injection e with e1 e2 e3
  subst e1
  subst e2
  refine ⟨b, off + p, rfl, hlt, fun i hi => ?_⟩
  rw [byt_take _ _ _ hi, Nat.add_assoc, hc (p + i) (by omega)]
  congr 2
  unfold byt
  rw [List.getD_eq_getElem?_getD, List.getD_eq_getElem?_getD, List.getElem?_drop]
theorem RdB.addr {w : World} {A : Option Addr} {len cap : Nat} {l : List UInt8} (h : RdB w A len cap l) (h0 : 0 < len) : ∃ b off, A = some ⟨b, off, none⟩ ∧ b < w.heap.size := by
  obtain ⟨b, off, e, hlt, _⟩ := h.hat h0
  exact ⟨b, off, e, hlt⟩
end Go.Proofs.Ytgicbgeblgfnfaa
