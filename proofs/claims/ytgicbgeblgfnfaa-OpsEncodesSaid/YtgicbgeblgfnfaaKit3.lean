/-
  General small laws: append onto a row of the call's own, the source nil, empty or not; a slice of bytes that reads as a list.
-/
import Derived.Test.YtgicbgeblgfnfaaKit2
import Derived.Maps.AppendAt
import Derived.Deep.AppendLies
set_option linter.unusedSimpArgs false
set_option linter.unusedVariables false
namespace Go.Proofs.Ytgicbgeblgfnfaa
open Go Go.RowKit Lib
theorem run_append_nothing {P : Program} (w : World) (base : Nat) (t ty e : TypeId) (i : TypeInfo) (size : Nat) (ht : P.underlying t = some (.slice e)) (hi : P.info? e = some i)
    (v : Value) (n : Nat) (xs : List Value) (hown : w.ownsRow base e size v n xs) (c : Nat) : (Builtin.append_ #[t, t] ty #[v, .slice none 0 c]).run P w = .ok v w := by
  rcases hown.2 with ⟨rfl, rfl⟩ | ⟨g, cap, cur, rfl, _, _, hnc, _⟩
  · simp [Builtin.append_, run_underlying ht, sizeOf, typeInfo, hi, Builtin.lenOf, Builtin.firstCells]
  · simp [Builtin.append_, run_underlying ht, sizeOf, typeInfo, hi, Builtin.lenOf, Builtin.firstCells, hnc, storeCells]
/-- 'append(s, x...)' onto a row of the call's own that is not empty behind it: the value stands at its row's head. -/
theorem wpl_lies {P : Program} {w : World} {ops : Array Oper} {rest : List Oper} {o : Oper} {a : Act} {Q : Exit → Act → World → Prop} (hgd : o.guard = none) (s x : Operand) (t : TypeId)
    (ho : o.op = .call { callee := .builtin .append, args := #[s, x], argTypes := #[t, t] }) {e : TypeId} {z : Value} {size bytes : Nat}
    (ht : P.underlying t = some (.slice e)) (hi : (P.info? e).map (fun i => (i.zero, i.size, i.bytes)) = some (some z, size, bytes)) (hzs : z.cells.size = size) (hsz : 0 < size)
    (base : Nat) {v : Value} {n : Nat} {xs : List Value} (hs : a.eval s = v) (hown : w.ownsRow base e size v n xs)
    {A : Option Addr} {m c : Nat} {news : List Value} (hx : a.eval x = .slice A m c) (hl : news.length = m * size) (hnews : 0 < m → ∃ ad, A = some ad ∧ ∀ j u, news[j]? = some u → w.cell? (ad.add j) = some u) (h1 : ∀ u ∈ news, u.oneCell' = true)
    (hpos : 0 < n + m) (h63 : n + m ≤ maxLen) (hbytes : (n + m) * bytes ≤ 140737488355328) (hbase : base ≤ w.heap.size)
    (h : ∀ g cap w', w'.ownsRow base e size (.slice (some ⟨g, 0, none⟩) (n + m) cap) (n + m) (xs ++ news) → w.grownBy w' v.ownBlock → Below base w w' → (v.ownBlock = some g ∨ g = w.heap.size) → g < w'.heap.size →
      wpList P ops Q rest (a.put o.dst (.slice (some ⟨g, 0, none⟩) (n + m) cap)) w') : wpList P ops Q (o :: rest) a w := by
  obtain ⟨i, hi, hz, hsize, hby⟩ := info_parts hi
  have hrun : ∃ v' w', (Builtin.append_ #[t, t] o.type #[v, .slice A m c]).run P w = .ok v' w' ∧ w'.ownsRow base e size v' (n + m) (xs ++ news) ∧ w.grownBy w' v.ownBlock ∧ (v'.ownBlock = v.ownBlock ∨ v'.ownBlock = some w.heap.size) := by
    rcases A with _ | ad
    · have hm : m = 0 := by
        rcases Nat.eq_zero_or_pos m with h0 | h0
        · exact h0
        · obtain ⟨ad, h, _⟩ := hnews h0
          cases h
      subst hm
      have hn : news = [] := List.eq_nil_of_length_eq_zero (by simpa using hl)
      subst hn
      exact ⟨v, w, run_append_nothing w base t o.type e i size ht hi v n xs hown c, by simpa using hown, World.grownBy.refl w _, .inl rfl⟩
    · have hcells : ∀ j u, news[j]? = some u → w.cell? (ad.add j) = some u := by
        intro j u hu
        rcases Nat.eq_zero_or_pos m with h0 | h0
        · subst h0
          have hn : news = [] := List.eq_nil_of_length_eq_zero (by simpa using hl)
          subst hn
          simp at hu
        · obtain ⟨ad', h, hc⟩ := hnews h0
          injection h with h
          subst h
          exact hc j u hu
      obtain ⟨v', w', hrun, h2, h3, _, h5⟩ := run_append_own_at (P := P) w base t o.type e i z size bytes ht hi hz hsize hby hzs hsz v n xs hown ad m c news hl hcells h1 h63 hbytes hbase
      exact ⟨v', w', hrun, h2, h3, h5⟩
  obtain ⟨v', w', hr, h2, h3, h5⟩ := hrun
  obtain ⟨g, cap, rfl, hg, hlt⟩ := h2.form hpos
  refine wpList_plain hgd fun K hK => ?_
  unfold Oper.wp execOp
  simp only [ho, resolve, invoke, builtin, Sem.run_bind, Sem.run_pure, Result.andThen_ok, List.map_toArray, List.map_cons, List.map_nil, hs, hx, hr]
  refine hK _ _ (h g cap w' h2 h3 ((Below.refl _ _).grown h3 hbase fun k hk => (hown.lt k hk).1) ?_ hlt)
  rcases h5 with h5 | h5
  · exact .inl (by rw [← h5]; rfl)
  · exact .inr (by simpa [Value.ownBlock] using h5)
/-- A new block that is known is owned. -/
theorem own_new (w : World) (xs : List Value) (e : TypeId) (base n : Nat) (hb : base ≤ w.heap.size) (hn : n = xs.length) (hm : n ≤ maxLen) :
    (w.alloc (.cells xs.toArray e)).ownsRow base e 1 (.slice (some ⟨w.heap.size, 0, none⟩) n n) n xs := by
  subst hn
  refine ⟨by simp, .inr ⟨w.heap.size, xs.length, xs.toArray, rfl, hb, heap_alloc_new w _, Nat.le_refl _, hm, by simp, by simp⟩⟩
/-- The byte at a place, as a number. -/
def byt (l : List UInt8) (k : Nat) : Nat := (l.getD k 0).toNat
theorem byt_lt (l : List UInt8) (k : Nat) : byt l k < 256 := (l.getD k 0).toNat_lt
/-- A byte as a value. -/
def bV (b : UInt8) : Value := .int .u8 b.toNat
theorem bV_get (l : List UInt8) (i : Nat) (hi : i < l.length) : (l.map bV)[i]? = some (.int .u8 (byt l i)) := by
  rw [List.getElem?_map, List.getElem?_eq_getElem hi]
  simp [byt, List.getD, List.getElem?_eq_getElem hi, bV]
theorem bV_one (l : List UInt8) : ∀ u ∈ l.map bV, u.oneCell' = true := by
  intro u hu
  obtain ⟨_, _, rfl⟩ := List.mem_map.1 hu
  rfl
/-- A slice of bytes that reads as a list. -/
structure RdB (w : World) (A : Option Addr) (len cap : Nat) (l : List UInt8) : Prop where
  hlen : len = l.length
  hle : len ≤ cap
  hmax : len ≤ 9223372036854775807
  hat : 0 < len → ∃ b off, A = some ⟨b, off, none⟩ ∧ b < w.heap.size ∧ ∀ i, i < len → w.cell? ⟨b, off + i, none⟩ = some (.int .u8 (byt l i))
theorem RdB.below {w w' : World} {A : Option Addr} {len cap : Nat} {l : List UInt8} (h : RdB w A len cap l) (hb : Below w.heap.size w w') : RdB w' A len cap l :=
  ⟨h.hlen, h.hle, h.hmax, fun h0 => by
    obtain ⟨b, off, e, hlt, hc⟩ := h.hat h0
    exact ⟨b, off, e, Nat.lt_of_lt_of_le hlt hb.size, fun i hi => (hb.cell (p := ⟨b, off + i, none⟩) hlt).trans (hc i hi)⟩⟩
theorem RdB.alloc {w : World} {A : Option Addr} {len cap : Nat} {l : List UInt8} (h : RdB w A len cap l) (o : Obj) : RdB (w.alloc o) A len cap l := h.below ((Below.refl _ _).alloc (Nat.le_refl _) _)
theorem RdB.drewN {w : World} {A : Option Addr} {len cap : Nat} {l : List UInt8} (h : RdB w A len cap l) (n : Nat) : RdB (w.drewN n) A len cap l := h.below (below_drewN (Below.refl _ _) n)
theorem add_cell (b off j : Nat) : ((⟨b, off, none⟩ : Addr).add j) = ⟨b, off + j, none⟩ := by
  unfold Addr.add
  split <;> simp_all
/-- Such a slice as the source of an append. -/
theorem RdB.src {w : World} {A : Option Addr} {len cap : Nat} {l : List UInt8} (h : RdB w A len cap l) : 0 < len → ∃ ad, A = some ad ∧ ∀ j u, (l.map bV)[j]? = some u → w.cell? (ad.add j) = some u := fun h0 => by
  obtain ⟨b, off, e, hlt, hc⟩ := h.hat h0
  refine ⟨_, e, fun j u hu => ?_⟩
  have hj : j < l.length := by
    have := (List.getElem?_eq_some_iff.1 hu).1
    simpa using this
  rw [bV_get l j hj] at hu
  injection hu with hu
  subst hu
  rw [add_cell]
  exact hc j (by rw [h.hlen]; exact hj)
theorem rdB_new (w : World) (l : List UInt8) (t : TypeId) (n : Nat) (hn : n = l.length) (hm : l.length ≤ 9223372036854775807) : RdB (w.alloc (.cells (l.map bV).toArray t)) (some ⟨w.heap.size, 0, none⟩) n n l := by
  subst hn
  refine ⟨rfl, Nat.le_refl _, hm, fun _ => ⟨w.heap.size, 0, rfl, by simp, fun i hi => ?_⟩⟩
  have h := cells_new w (l.map bV) t i _ (bV_get l i hi)
  rw [add_cell] at h
  exact h
/-- A row of the call's own, as a slice that reads. -/
theorem rdB_own {w : World} {base : Nat} {e : TypeId} {g n cap : Nat} {l : List UInt8} (h : w.ownsRow base e 1 (.slice (some ⟨g, 0, none⟩) n cap) n (l.map bV)) : RdB w (some ⟨g, 0, none⟩) n cap l := by
  have hn : n = l.length := by
    have := h.1
    simpa using this.symm
  have hc : n ≤ cap ∧ cap ≤ maxLen := by
    rcases h.2 with ⟨hv, _⟩ | ⟨g', cap', cur, hv, _, _, h1, h2, _⟩
    · cases hv
    · injection hv with _ _ h3
      subst h3
      exact ⟨h1, h2⟩
  refine ⟨hn, hc.1, by have := hc.2; unfold maxLen at this; omega, fun h0 => ⟨g, 0, rfl, (h.lt g rfl).2, fun i hi => ?_⟩⟩
  rw [Nat.zero_add, h.cellAt i (by omega)]
  exact bV_get l i (by omega)
theorem own_eq {w : World} {base : Nat} {e : TypeId} {size n m : Nat} {v : Value} {xs ys : List Value} (h : w.ownsRow base e size v n xs) (hn : n = m) (hx : xs = ys) : w.ownsRow base e size v m ys := by
  subst hn
  subst hx
  exact h
theorem bV_ofNat (c : Nat) (h : c < 256) : Value.int .u8 (c : Int) = bV (UInt8.ofNat c) := by
  unfold bV
  rw [UInt8.toNat_ofNat', Nat.mod_eq_of_lt (by omega)]
theorem byt_take (l : List UInt8) (n i : Nat) (h : i < n) : byt (l.take n) i = byt l i := by
  unfold byt
  rw [List.getD_eq_getElem?_getD, List.getD_eq_getElem?_getD, List.getElem?_take, if_pos h]
theorem RdB.take {w : World} {A : Option Addr} {len cap : Nat} {l : List UInt8} (h : RdB w A len cap l) (n : Nat) (hn : n ≤ len) : RdB w A n cap (l.take n) :=
  ⟨by have := h.hlen; rw [List.length_take]; omega, by have := h.hle; omega, by have := h.hmax; omega, fun h0 => by
    obtain ⟨b, off, e, hlt, hc⟩ := h.hat (by omega)
    exact ⟨b, off, e, hlt, fun i hi => by rw [byt_take l n i hi]; exact hc i (by omega)⟩⟩
theorem pad_succ (c : UInt8) (l : List UInt8) (j : Nat) : (c :: l ++ List.replicate j 0).map bV ++ [Value.int .u8 0] = (c :: l ++ List.replicate (j + 1) 0).map bV := by
  rw [List.replicate_succ', ← List.append_assoc, List.map_append (l₂ := [0])]
  rfl
def lenOf : Value → Nat
  | .slice _ n _ => n
  | _ => 0
end Go.Proofs.Ytgicbgeblgfnfaa
