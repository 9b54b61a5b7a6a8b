/-
  A slice of instructions that reads as a list; the instructions that can be encoded, one behind the other.
-/
import Derived.Test.YtgicbgeblgfnfaaLaws
import Derived.Test.YtgicbgeblgfnfaaStr
import Derived.Lib.SmallJoins
import Derived.Deep.Slices
set_option linter.unusedSimpArgs false
set_option linter.unusedVariables false
namespace Go.Proofs.Ytgicbgeblgfnfaa
open Go Go.RowKit Lib
def op0 : OpD := (0, 0, 0, 0)
/-- A slice of instructions that reads as a list. -/
structure RdO (w : World) (A : Option Addr) (len cap : Nat) (l : List OpD) : Prop where
  hlen : len = l.length
  hle : len ≤ cap
  hmax : len ≤ 9223372036854775807
  hat : 0 < len → ∃ b off, A = some ⟨b, off, none⟩ ∧ b < w.heap.size ∧ ∀ i, i < len → w.cell? ⟨b, off + i * 4, none⟩ = some (.int .i64 (l.getD i op0).1) ∧ w.cell? ⟨b, off + (i * 4 + 1), none⟩ = some (.int .i64 (l.getD i op0).2.1) ∧
    w.cell? ⟨b, off + (i * 4 + 2), none⟩ = some (.int .i64 (l.getD i op0).2.2.1) ∧ w.cell? ⟨b, off + (i * 4 + 3), none⟩ = some (.int .i64 (l.getD i op0).2.2.2)
theorem cellsOp' : Try.prog.cellsOf 25 = 4 := by kernel_rfl
theorem rdO_row {H : Type} {enc : TypeId × Value → H} {w : World} {base : Nat} {spare : Nat → Bool} {held : Bool} {A : Option Addr} {len cap : Nat} {d : DataW H} {p : List MemPlace}
    (h : DataW.Trod enc Try.prog w base spare held 38 (.slice A len cap) d p) : ∃ l, RdO w A len cap l := by
  obtain ⟨fuel, hf⟩ := h
  rcases Deep.open_slice Try.underlying38 hf with ⟨hcs, _⟩ | ⟨x, len', cap', m, n, D, Pl, hcs, _, hl, hm, hmm, _, hi⟩
  · simp [Value.cells] at hcs
    obtain ⟨rfl, rfl, rfl⟩ := hcs
    exact ⟨[], rfl, Nat.le_refl _, by omega, fun h0 => absurd h0 (by omega)⟩
  · simp [Value.cells] at hcs
    obtain ⟨rfl, rfl, rfl⟩ := hcs
    have hlm : len ≤ m := by rw [hmm]; split <;> omega
    have key : ∀ i, ∃ q : OpD, i < len → w.cell? (x.add (i * 4)) = some (.int .i64 q.1) ∧ w.cell? ((x.add (i * 4)).add 1) = some (.int .i64 q.2.1) ∧ w.cell? ((x.add (i * 4)).add 2) = some (.int .i64 q.2.2.1) ∧ w.cell? ((x.add (i * 4)).add 3) = some (.int .i64 q.2.2.2) := by
      intro i
      by_cases hlt : i < len
      · obtain ⟨cs', hc, ht'⟩ := hi i (by omega)
        rw [cellsOp'] at hc
        obtain ⟨_, hcl, hat⟩ := World.cells?_some hc
        obtain ⟨y0, y1, y2, y3, k, _, _, h0, h1, h2, h3⟩ := Joins.trod_struct4 Try.underlying25 ht'
        obtain ⟨c0, c1, c2, c3, rfl⟩ : ∃ c0 c1 c2 c3, cs' = [c0, c1, c2, c3] := by
          match cs', hcl with
          | [c0, c1, c2, c3], _ => exact ⟨c0, c1, c2, c3, rfl⟩
        have ck : Try.prog.cellsOf 3 = 1 := by kernel_rfl
        simp only [ck] at h0 h1 h2 h3
        obtain ⟨a0, e0, _, _⟩ := DataW.trod_int Try.underlying3 (show DataW.trod enc Try.prog w base spare held k 3 [c0] = some y0 from h0)
        obtain ⟨a1, e1, _, _⟩ := DataW.trod_int Try.underlying3 (show DataW.trod enc Try.prog w base spare held k 3 [c1] = some y1 from h1)
        obtain ⟨a2, e2, _, _⟩ := DataW.trod_int Try.underlying3 (show DataW.trod enc Try.prog w base spare held k 3 [c2] = some y2 from h2)
        obtain ⟨a3, e3, _, _⟩ := DataW.trod_int Try.underlying3 (show DataW.trod enc Try.prog w base spare held k 3 [c3] = some y3 from h3)
        simp at e0 e1 e2 e3
        subst e0 e1 e2 e3
        refine ⟨(a0, a1, a2, a3), fun _ => ⟨?_, ?_, ?_, ?_⟩⟩
        · have := hat 0 (by omega)
          rw [Addr.add_zero'] at this
          exact this
        · exact hat 1 (by omega)
        · exact hat 2 (by omega)
        · exact hat 3 (by omega)
      · exact ⟨op0, fun h => absurd h hlt⟩
    obtain ⟨f, hf'⟩ := Classical.axiomOfChoice key
    refine ⟨(List.range len).map f, by simp, hl, by unfold maxLen at hm; omega, fun h0 => ?_⟩
    obtain ⟨b, off, spot⟩ := x
    have h1 := (hf' 0 h0).1
    have hs : spot = none := by
      rcases spot with _ | s
      · rfl
      · exfalso
        simp [Addr.add, World.cell?] at h1
        split at h1 <;> simp at h1
    subst hs
    refine ⟨b, off, rfl, ?_, fun i hi => ?_⟩
    · have := World.block_lt_of_cell? _ _ h1
      simpa [Addr.add] using this
    · have hg := hf' i hi
      have e : ((List.range len).map f).getD i op0 = f i := by
        rw [List.getD_eq_getElem?_getD, List.getElem?_map, List.getElem?_range hi]
        rfl
      rw [e]
      simp only [add_cell] at hg
      exact ⟨hg.1, by rw [← Nat.add_assoc]; exact hg.2.1, by rw [← Nat.add_assoc]; exact hg.2.2.1, by rw [← Nat.add_assoc]; exact hg.2.2.2⟩
abbrev EncD := OpD × List UInt8
/-- Those that can be encoded, with their bytes. -/
def encs (l : List OpD) : List EncD := l.filterMap fun o => (encP o.1 o.2.1 o.2.2.1).map fun bs => ((o.1, o.2.1, o.2.2.1, (bs.length : Int)), bs)
def byts (q : List EncD) : List UInt8 := q.flatMap (·.2)
def opCells (q : List EncD) : List Value := q.flatMap fun x => [Value.int .i64 x.1.1, Value.int .i64 x.1.2.1, Value.int .i64 x.1.2.2.1, Value.int .i64 x.1.2.2.2]
theorem encs_mem {l : List OpD} {x : EncD} (h : x ∈ encs l) : encP x.1.1 x.1.2.1 x.1.2.2.1 = some x.2 ∧ x.1.2.2.2 = (x.2.length : Int) := by
  unfold encs at h
  obtain ⟨o, _, ho⟩ := List.mem_filterMap.1 h
  obtain ⟨bs, hb, rfl⟩ := Option.map_eq_some_iff.1 ho
  exact ⟨hb, rfl⟩
theorem encs_none {l : List OpD} {k : Nat} (hk : k < l.length) (h : encP (l.getD k op0).1 (l.getD k op0).2.1 (l.getD k op0).2.2.1 = none) : encs (l.take (k + 1)) = encs (l.take k) := by
  rw [List.getD_eq_getElem?_getD, List.getElem?_eq_getElem hk, Option.getD_some] at h
  unfold encs
  rw [List.take_add_one, List.filterMap_append, List.getElem?_eq_getElem hk]
  simp [h]
theorem encs_some {l : List OpD} {k : Nat} {bs : List UInt8} (hk : k < l.length) (h : encP (l.getD k op0).1 (l.getD k op0).2.1 (l.getD k op0).2.2.1 = some bs) :
    encs (l.take (k + 1)) = encs (l.take k) ++ [(((l.getD k op0).1, (l.getD k op0).2.1, (l.getD k op0).2.2.1, (bs.length : Int)), bs)] := by
  rw [List.getD_eq_getElem?_getD, List.getElem?_eq_getElem hk, Option.getD_some] at h ⊢
  unfold encs
  rw [List.take_add_one, List.filterMap_append, List.getElem?_eq_getElem hk]
  simp [h]
theorem encs_length (l : List OpD) : (encs l).length ≤ l.length := List.length_filterMap_le ..
theorem byts_length : ∀ (q : List EncD), (∀ x ∈ q, x.2.length ≤ 5) → (byts q).length ≤ 5 * q.length
  | [], _ => by simp [byts]
  | x :: q, h => by
    have h1 := h x (List.mem_cons_self ..)
    have h2 := byts_length q fun y hy => h y (List.mem_cons_of_mem _ hy)
    unfold byts at h2 ⊢
    rw [List.flatMap_cons, List.length_append, List.length_cons]
    omega
theorem encs_bytes (l : List OpD) : (byts (encs l)).length ≤ 5 * l.length := by
  have h1 := byts_length (encs l) fun x hx => (encP_long (encs_mem hx).1).2
  have h2 := encs_length l
  omega
theorem opCells_length (q : List EncD) : (opCells q).length = q.length * 4 := by
  induction q with
  | nil => rfl
  | cons x q ih =>
    unfold opCells at ih ⊢
    rw [List.flatMap_cons, List.length_append, ih, List.length_cons]
    simp
    omega
theorem opCells_get : ∀ (q : List EncD) (k : Nat) (x : EncD), q[k]? = some x → (opCells q)[k * 4]? = some (.int .i64 x.1.1) ∧ (opCells q)[k * 4 + 1]? = some (.int .i64 x.1.2.1) ∧ (opCells q)[k * 4 + 2]? = some (.int .i64 x.1.2.2.1) ∧ (opCells q)[k * 4 + 3]? = some (.int .i64 x.1.2.2.2)
  | [], k, x, h => by simp at h
  | y :: q, 0, x, h => by
    simp at h
    subst h
    exact ⟨rfl, rfl, rfl, rfl⟩
  | y :: q, k + 1, x, h => by
    have ih := opCells_get q k x (by simpa using h)
    have e : ∀ r, (opCells (y :: q))[(k + 1) * 4 + r]? = (opCells q)[k * 4 + r]? := fun r => by
      show ([Value.int .i64 y.1.1, Value.int .i64 y.1.2.1, Value.int .i64 y.1.2.2.1, Value.int .i64 y.1.2.2.2] ++ opCells q)[(k + 1) * 4 + r]? = _
      rw [List.getElem?_append_right (by simp; omega)]
      congr 1
      simp
      omega
    exact ⟨(e 0).trans ih.1, (e 1).trans ih.2.1, (e 2).trans ih.2.2.1, (e 3).trans ih.2.2.2⟩
theorem byts_split (q : List EncD) (j : Nat) (x : EncD) (h : q[j]? = some x) : byts q = byts (q.take j) ++ (x.2 ++ byts (q.drop (j + 1))) ∧ byts (q.take (j + 1)) = byts (q.take j) ++ x.2 := by
  have hj := (List.getElem?_eq_some_iff.1 h).1
  have hx : q[j] = x := (List.getElem?_eq_some_iff.1 h).2
  refine ⟨?_, ?_⟩
  · conv => lhs; rw [← List.take_append_drop j q, List.drop_eq_getElem_cons hj, hx]
    simp [byts]
  · rw [List.take_add_one, h]
    simp [byts]
/-- At the place of the j-th the j-th is decoded. -/
theorem dec_nth {l : List OpD} {j : Nat} {x : EncD} (h : (encs l)[j]? = some x) : decP (byts (encs l)) ((byts ((encs l).take j)).length : Nat) = some x.1 := by
  have hm := encs_mem (List.mem_of_getElem? h)
  rw [(byts_split _ j x h).1, back_enc hm.1]
  obtain ⟨⟨c, a, b, n⟩, bs⟩ := x
  have := hm.2
  simp only at this ⊢
  rw [this]
theorem dec_end (l : List UInt8) : decP l (l.length : Nat) = none := by
  unfold decP
  rw [if_pos (by omega)]
/-- A row of bytes of the call's own, nil or not, as a slice that reads. -/
theorem own_rd {w : World} {base : Nat} {e : TypeId} {v : Value} {n : Nat} {l : List UInt8} (h : w.ownsRow base e 1 v n (l.map bV)) : ∃ A cap, v = .slice A n cap ∧ RdB w A n cap l := by
  rcases Nat.eq_zero_or_pos n with h0 | h0
  · rcases h.2 with ⟨rfl, _⟩ | ⟨g, cap, cur, rfl, _, _, _, _⟩
    · refine ⟨none, 0, by rw [h0], ?_⟩
      have hl : l = [] := by
        have := h.1
        simp at this
        exact List.eq_nil_of_length_eq_zero (by omega)
      subst hl
      subst h0
      exact ⟨rfl, Nat.le_refl _, by omega, fun h => absurd h (by omega)⟩
    · exact ⟨_, _, rfl, rdB_own h⟩
  · obtain ⟨g, cap, rfl, _, _⟩ := h.form h0
    exact ⟨_, _, rfl, rdB_own h⟩
theorem info_op : (Try.prog.info? 25).map (fun i => (i.zero, i.size, i.bytes)) = some (some (.agg #[.int .i64 0, .int .i64 0, .int .i64 0, .int .i64 0]), 4, 32) := by kernel_rfl
end Go.Proofs.Ytgicbgeblgfnfaa
