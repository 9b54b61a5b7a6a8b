/-
  What the loader's laws rest on, part 26: walks of the program's functions and plain laws. Conditions: none but those that each theorem names.
-/
import Derived.Test.YtdbniocnjhfhdaaGreatDoorB25
import Derived.Lib.SmallJoins
import Derived.Deep.Slices
import Derived.Deep.Strs
import Derived.ChangeSlices

set_option linter.unusedSimpArgs false
set_option linter.unusedVariables false
namespace Go.Proofs.YtdbniocnjhfhdaaGreatDoor
set_option maxRecDepth 100000
open Go Go.RowKit Lib Go.ChangeShapes Go.ChangeAt
structure DfD where
  name : ByteArray
  bytes : List UInt8
  load : Bool
def df0 : DfD := ⟨⟨#[]⟩, [], false⟩
structure DfAt (w : World) (b o : Nat) (d : DfD) : Prop where
  nm : w.cell? ⟨b, o, none⟩ = some (.string d.name)
  by' : ∃ A len cap, w.cell? ⟨b, o + 1, none⟩ = some (.slice A len cap) ∧ RdB w A len cap d.bytes
  ld : w.cell? ⟨b, o + 2, none⟩ = some (.bool d.load)
  ns : d.name.size ≤ 9223372036854775807
structure RdDf (w : World) (A : Option Addr) (len cap : Nat) (l : List DfD) : Prop where
  hlen : len = l.length
  hle : len ≤ cap
  hmax : len ≤ 9223372036854775807
  hat : 0 < len → ∃ b off, A = some ⟨b, off, none⟩ ∧ b < w.heap.size ∧ ∀ i, i < len → DfAt w b (off + i * 3) (l.getD i df0)
theorem cellsDf : Tryz.prog.cellsOf 29 = 3 := by kernel_rfl
theorem rdB_of {w : World} {x : Addr} {len cap : Nat} {zs : List Int} (hl : len ≤ cap) (hm : cap ≤ maxLen) (hz : len ≤ zs.length) (hc : ∀ i, i < zs.length → w.cell? (x.add i) = some (.int .u8 (zs.getD i 0))) (hw : ∀ n ∈ zs, (Lit.int .u8 n).wf = true) :
    RdB w (some x) len cap ((zs.take len).map fun n => UInt8.ofNat n.toNat) := by
  refine ⟨by simp; omega, hl, by unfold maxLen at hm; omega, fun h0 => ?_⟩
  obtain ⟨b, off, spot⟩ := x
  have h1 := hc 0 (by omega)
  have hs : spot = none := by
    rcases spot with _ | s
    · rfl
    · exfalso
      simp [Addr.add, World.cell?] at h1
      split at h1 <;> simp at h1
  subst hs
  refine ⟨b, off, rfl, ?_, fun i hi => ?_⟩
  · have := World.block_lt_of_cell? _ _ h1
    simpa [Addr.add] using this
  · have h2 := hc i (by omega)
    rw [add_cell] at h2
    rw [h2]
    have hi2 : i < zs.length := by omega
    have hmem : zs[i] ∈ zs := List.getElem_mem _
    have hb := wf_u8 (hw _ hmem)
    have e : zs.getD i 0 = zs[i] := by rw [List.getD_eq_getElem?_getD, List.getElem?_eq_getElem hi2]; rfl
    rw [e]
    have e2 : byt ((zs.take len).map fun n => UInt8.ofNat n.toNat) i = zs[i].toNat := by
      unfold byt
      rw [List.getD_eq_getElem?_getD, List.getElem?_map, List.getElem?_take, if_pos hi, List.getElem?_eq_getElem hi2]
      simp only [Option.map_some, Option.getD_some, UInt8.toNat_ofNat']
      omega
    rw [e2]
    congr 2
    omega
theorem rdDf_row {H : Type} {enc : TypeId × Value → H} {w : World} {base : Nat} {spare : Nat → Bool} {held : Bool} {A : Option Addr} {len cap : Nat} {d : DataW H} {p : List MemPlace}
    (h : DataW.Trod enc Tryz.prog w base spare held 22 (.slice A len cap) d p) : ∃ l, RdDf w A len cap l := by
  obtain ⟨fuel, hf⟩ := h
  rcases Deep.open_slice Tryz.underlying22 hf with ⟨hcs, _⟩ | ⟨x, len', cap', m, n, D, Pl, hcs, _, hl, hm, hmm, _, hi⟩
  · simp [Value.cells] at hcs
    obtain ⟨rfl, rfl, rfl⟩ := hcs
    exact ⟨[], rfl, Nat.le_refl _, by omega, fun h0 => absurd h0 (by omega)⟩
  · simp [Value.cells] at hcs
    obtain ⟨rfl, rfl, rfl⟩ := hcs
    have hlm : len ≤ m := by rw [hmm]; split <;> omega
    have key : ∀ i, ∃ q : DfD, i < len → w.cell? (x.add (i * 3)) = some (.string q.name) ∧ (∃ A' n' c', w.cell? ((x.add (i * 3)).add 1) = some (.slice A' n' c') ∧ RdB w A' n' c' q.bytes) ∧ w.cell? ((x.add (i * 3)).add 2) = some (.bool q.load) ∧ q.name.size ≤ 9223372036854775807 := by
      intro i
      by_cases hlt : i < len
      · obtain ⟨cs', hc, ht'⟩ := hi i (by omega)
        rw [cellsDf] at hc
        obtain ⟨_, hcl, hat⟩ := World.cells?_some hc
        obtain ⟨y0, y1, y2, k, _, _, h0, h1, h2⟩ := Deep.trod_struct3 Tryz.underlying29 ht'
        obtain ⟨c0, c1, c2, rfl⟩ : ∃ c0 c1 c2, cs' = [c0, c1, c2] := by
          match cs', hcl with
          | [c0, c1, c2], _ => exact ⟨c0, c1, c2, rfl⟩
        have ck0 : Tryz.prog.cellsOf 9 = 1 := by kernel_rfl
        have ck1 : Tryz.prog.cellsOf 27 = 1 := by kernel_rfl
        have ck2 : Tryz.prog.cellsOf 4 = 1 := by kernel_rfl
        simp only [ck0, ck1, ck2] at h0 h1 h2
        obtain ⟨s, e0, _, hs⟩ := DataW.trod_string Tryz.underlying9 (show DataW.trod enc Tryz.prog w base spare held k 9 [c0] = some y0 from h0)
        obtain ⟨bl, e2, _⟩ := DataW.trod_bool Tryz.underlying4 (show DataW.trod enc Tryz.prog w base spare held k 4 [c2] = some y2 from h2)
        obtain ⟨A', n', c', bs, e1, hb⟩ : ∃ A' n' c' bs, c1 = .slice A' n' c' ∧ RdB w A' n' c' bs := by
          rcases open_ints Tryz.underlying27 Tryz.underlying5 (by kernel_rfl) (show DataW.trod enc Tryz.prog w base spare held k 27 [c1] = some y1 from h1) with ⟨e1, _⟩ | ⟨x1, l1, cp1, zs, e1, _, hl1, hm1, hz, _, hcell, hwz⟩
          · simp at e1
            exact ⟨none, 0, 0, [], e1, rfl, Nat.le_refl _, by decide, fun h => absurd h (by decide)⟩
          · simp at e1
            exact ⟨_, _, _, _, e1, rdB_of hl1 hm1 (by rw [hz]; split <;> omega) hcell hwz⟩
        simp at e0 e2
        subst e0 e1 e2
        refine ⟨⟨s, bs, bl⟩, fun _ => ⟨?_, ⟨A', n', c', hat 1 (by omega), hb⟩, hat 2 (by omega), by unfold maxLen at hs; omega⟩⟩
        have := hat 0 (by omega)
        rw [Addr.add_zero'] at this
        exact this
      · exact ⟨df0, fun h => absurd h hlt⟩
    obtain ⟨f, hf'⟩ := Classical.axiomOfChoice key
    refine ⟨(List.range len).map f, by simp, hl, by unfold maxLen at hm; omega, fun h0 => ?_⟩
    obtain ⟨b, off, spot⟩ := x
    have h1 := (hf' 0 h0).1
    have hs : spot = none := by
      rcases spot with _ | s
      · rfl
      · exfalso
        simp [Addr.add, World.cell?] at h1
        split at h1 <;> simp at h1
    subst hs
    refine ⟨b, off, rfl, ?_, fun i hi => ?_⟩
    · have := World.block_lt_of_cell? _ _ h1
      simpa [Addr.add] using this
    · have hg := hf' i hi
      have e : ((List.range len).map f).getD i df0 = f i := by
        rw [List.getD_eq_getElem?_getD, List.getElem?_map, List.getElem?_range hi]
        rfl
      rw [e]
      simp only [add_cell] at hg
      exact ⟨hg.1, hg.2.1, hg.2.2.1, hg.2.2.2⟩
end Go.Proofs.YtdbniocnjhfhdaaGreatDoor
