/-
  General small laws: 'string(b)' of a slice of bytes that reads as a list; a part of such a slice.
-/
import Derived.Test.YtgicbgeblgfnfaaKit4
import Derived.Laws.BytesArg
set_option linter.unusedSimpArgs false
set_option linter.unusedVariables false
namespace Go.Proofs.Ytgicbgeblgfnfaa
open Go Go.RowKit Lib
theorem strOf_bytes (l : List UInt8) : strOfNums (l.map fun x => (x.toNat : Int)) = ⟨l.toArray⟩ := by
  unfold strOfNums
  congr 1
  rw [List.map_map]
  congr 1
  conv => rhs; rw [← List.map_id l]
  apply List.map_congr_left
  intro x _
  simp
theorem RdB.str {w : World} {A : Option Addr} {len cap : Nat} {l : List UInt8} (h : RdB w A len cap l) : (convert 22 9 (.slice A len cap)).run Try.prog w = .ok (.string ⟨l.toArray⟩) w := by
  rcases Nat.eq_zero_or_pos len with h0 | h0
  · have hl : l = [] := List.eq_nil_of_length_eq_zero (by have := h.hlen; omega)
    subst hl
    subst h0
    rw [run_convert_bytes_string (P := Try.prog) w 22 9 5 A 0 cap Try.underlying22 Try.underlying5 Try.underlying9]
    rcases A with _ | a
    · simp [Conv.bytesToString]
      rfl
    · have := run_bytesToString (P := Try.prog) w a 0 cap [] (by simpa using run_loadCells_list (P := Try.prog) w a [] (fun j v hj => by simp at hj))
      rw [this]
      rfl
  · obtain ⟨b, off, rfl, _, hc⟩ := h.hat h0
    have := run_convert_bytes_arg (P := Try.prog) w 22 5 Try.underlying22 Try.underlying5 b off len cap (l.map fun x => (x.toNat : Int)) (by simpa using h.hlen.symm) (fun i hi => by
      rw [hc i hi]
      have hi2 : i < l.length := by have := h.hlen; omega
      simp [byt, List.getD, List.getElem?_map, List.getElem?_eq_getElem hi2]) 9 Try.underlying9
    rw [this, strOf_bytes]
/-- A part of such a slice. -/
theorem RdB.part {w : World} {b off len cap : Nat} {l : List UInt8} (h : RdB w (some ⟨b, off, none⟩) len cap l) (p n : Nat) (hp : p + n ≤ len) (h1 : 0 < n) : RdB w (some ⟨b, off + p, none⟩) n (cap - p) ((l.drop p).take n) := by
  have h2 := h.hlen
  have h3 := h.hle
  have h4 := h.hmax
  refine ⟨by simp; omega, by omega, by omega, fun _ => ?_⟩
  obtain ⟨b', off', e, hlt, hc⟩ := h.hat (by omega)
  injection e with e
  injection e with e1 e2 e3
  subst e1
  subst e2
  refine ⟨b, off + p, rfl, hlt, fun i hi => ?_⟩
  rw [byt_take _ _ _ hi, Nat.add_assoc, hc (p + i) (by omega)]
  congr 2
  unfold byt
  rw [List.getD_eq_getElem?_getD, List.getD_eq_getElem?_getD, List.getElem?_drop]
theorem RdB.addr {w : World} {A : Option Addr} {len cap : Nat} {l : List UInt8} (h : RdB w A len cap l) (h0 : 0 < len) : ∃ b off, A = some ⟨b, off, none⟩ ∧ b < w.heap.size := by
  obtain ⟨b, off, e, hlt, _⟩ := h.hat h0
  exact ⟨b, off, e, hlt⟩
/-- 'append(s, x...)' onto a row of the call's own, the source nil, empty or not; the value as it comes. -/
theorem wpl_own {P : Program} {w : World} {ops : Array Oper} {rest : List Oper} {o : Oper} {a : Act} {Q : Exit → Act → World → Prop} (hgd : o.guard = none) (s x : Operand) (t : TypeId)
    (ho : o.op = .call { callee := .builtin .append, args := #[s, x], argTypes := #[t, t] }) {e : TypeId} {z : Value} {size bytes : Nat}
    (ht : P.underlying t = some (.slice e)) (hi : (P.info? e).map (fun i => (i.zero, i.size, i.bytes)) = some (some z, size, bytes)) (hzs : z.cells.size = size) (hsz : 0 < size)
    (base : Nat) {v : Value} {n : Nat} {xs : List Value} (hs : a.eval s = v) (hown : w.ownsRow base e size v n xs)
    {A : Option Addr} {m c : Nat} {news : List Value} (hx : a.eval x = .slice A m c) (hl : news.length = m * size) (hnews : 0 < m → ∃ ad, A = some ad ∧ ∀ j u, news[j]? = some u → w.cell? (ad.add j) = some u) (h1 : ∀ u ∈ news, u.oneCell' = true)
    (h63 : n + m ≤ maxLen) (hbytes : (n + m) * bytes ≤ 140737488355328) (hbase : base ≤ w.heap.size)
    (h : ∀ v' w', w'.ownsRow base e size v' (n + m) (xs ++ news) → w.grownBy w' v.ownBlock → Below base w w' → wpList P ops Q rest (a.put o.dst v') w') : wpList P ops Q (o :: rest) a w := by
  rcases Nat.eq_zero_or_pos (n + m) with h0 | hpos
  · obtain ⟨rfl, rfl⟩ : n = 0 ∧ m = 0 := by omega
    obtain ⟨i, hi, hz, hsize, hby⟩ := info_parts hi
    have hn : news = [] := List.eq_nil_of_length_eq_zero (by simpa using hl)
    subst hn
    have hrun : (Builtin.append_ #[t, t] o.type #[v, .slice A 0 c]).run P w = .ok v w := by
      rcases A with _ | ad
      · exact run_append_nothing w base t o.type e i size ht hi v 0 xs hown c
      · have hl0 : (loadCells ad 0).run P w = .ok #[] w := by simpa using run_loadCells_list (P := P) w ad [] (fun j v hj => by simp at hj)
        rcases hown.2 with ⟨rfl, _⟩ | ⟨g, cap, cur, rfl, _, _, hnc, _⟩
        · simp [Builtin.append_, run_underlying ht, sizeOf, typeInfo, hi, Builtin.lenOf, Builtin.firstCells, hl0, storeCells]
        · simp [Builtin.append_, run_underlying ht, sizeOf, typeInfo, hi, Builtin.lenOf, Builtin.firstCells, hnc, hl0, storeCells]
    refine wpList_plain hgd fun K hK => ?_
    unfold Oper.wp execOp
    simp only [ho, resolve, invoke, builtin, Sem.run_bind, Sem.run_pure, Result.andThen_ok, List.map_toArray, List.map_cons, List.map_nil, hs, hx, hrun]
    exact hK _ _ (h v w (by simpa using hown) (World.grownBy.refl w _) (Below.refl _ _))
  · exact wpl_lies hgd s x t ho ht hi hzs hsz base hs hown hx hl hnews h1 hpos h63 hbytes hbase fun g cap w' h2 h3 h4 _ _ => h _ w' h2 h3 h4
end Go.Proofs.Ytgicbgeblgfnfaa
