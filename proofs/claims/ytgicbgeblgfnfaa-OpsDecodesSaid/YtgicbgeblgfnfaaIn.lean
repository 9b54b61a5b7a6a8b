/-
  An argument that is a slice of bytes, as the row's frame gives it, reads as a list.
-/
import Derived.Test.YtgicbgeblgfnfaaKit3
import Derived.ProofKit
import Derived.OpenShut
set_option linter.unusedSimpArgs false
set_option linter.unusedVariables false
namespace Go.Proofs.Ytgicbgeblgfnfaa
open Go Go.RowKit Lib
theorem wf_u8 {n : Int} (h : (Lit.int .u8 n).wf = true) : 0 ≤ n ∧ n ≤ 255 := by
  have h2 : IntKind.u8.min ≤ n ∧ n ≤ IntKind.u8.max := by simpa [Lit.wf] using h
  have h3 : IntKind.u8.min = 0 := by decide
  have h4 : IntKind.u8.max = 255 := by decide
  omega
theorem rdB_row {w : World} {a : Option Addr} {len cap : Nat} {zs : List Int}
    (h : (a = none ∧ len = 0 ∧ cap = 0 ∧ zs = []) ∨
      ∃ x, a = some x ∧ len ≤ cap ∧ cap ≤ maxLen ∧ zs.length = cap ∧ (∀ i, i < zs.length → w.cell? (x.add i) = some (.int .u8 (zs.getD i 0))) ∧ ∀ n ∈ zs, (Lit.int .u8 n).wf = true) :
    RdB w a len cap ((zs.take len).map fun n => UInt8.ofNat n.toNat) := by
  rcases h with ⟨rfl, rfl, rfl, rfl⟩ | ⟨x, rfl, hl, hm, hz, hc, hw⟩
  · exact ⟨by simp, Nat.le_refl _, by simp, fun h0 => absurd h0 (by omega)⟩
  · refine ⟨by simp; omega, hl, by unfold maxLen at hm; omega, fun h0 => ?_⟩
    obtain ⟨b, off, spot⟩ := x
    have h1 := hc 0 (by omega)
    have hs : spot = none := by
      rcases spot with _ | s
      · rfl
      · exfalso
        simp [Addr.add, World.cell?] at h1
        split at h1 <;> simp at h1
    subst hs
    refine ⟨b, off, rfl, ?_, fun i hi => ?_⟩
    · have := World.block_lt_of_cell? _ _ h1
      simpa [Addr.add] using this
    · have h2 := hc i (by omega)
      rw [add_cell] at h2
      rw [h2]
      have hi2 : i < zs.length := by omega
      have hmem : zs[i] ∈ zs := List.getElem_mem _
      have hb := wf_u8 (hw _ hmem)
      have e : zs.getD i 0 = zs[i] := by rw [List.getD_eq_getElem?_getD, List.getElem?_eq_getElem hi2]; rfl
      rw [e]
      have e2 : byt ((zs.take len).map fun n => UInt8.ofNat n.toNat) i = zs[i].toNat := by
        unfold byt
        rw [List.getD_eq_getElem?_getD, List.getElem?_map, List.getElem?_take, if_pos hi, List.getElem?_eq_getElem hi2]
        simp only [Option.map_some, Option.getD_some, UInt8.toNat_ofNat']
        omega
      rw [e2]
      congr 2
      omega
end Go.Proofs.Ytgicbgeblgfnfaa
