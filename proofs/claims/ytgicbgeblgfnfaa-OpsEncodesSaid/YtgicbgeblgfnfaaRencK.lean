/-
  The reference's Encode: what is known of the world from one append to the next.
-/
import Derived.Test.YtgicbgeblgfnfaaForm
import Derived.Test.YtgicbgeblgfnfaaOpsB
import Derived.Test.YtgicbgeblgfnfaaStill
import Derived.Deep.AppendLies
import Derived.Deep.RegionLaw
set_option linter.unusedSimpArgs false
set_option linter.unusedVariables false
set_option maxRecDepth 100000
set_option maxHeartbeats 4000000
namespace Go.Proofs.Ytgicbgeblgfnfaa
open Go Go.RowKit Lib
theorem own_src {w : World} {base : Nat} {e : TypeId} {g n cap : Nat} {xs : List Value} (h : w.ownsRow base e 1 (.slice (some ⟨g, 0, none⟩) n cap) n xs) : ∀ j u, xs[j]? = some u → w.cell? ((⟨g, 0, none⟩ : Addr).add j) = some u := fun j u hj => by
  have hl : j < n := by
    have := (List.getElem?_eq_some_iff.1 hj).1
    have := h.1
    omega
  rw [add_cell, Nat.zero_add, h.cellAt j (by omega)]
  exact hj
structure EncS (w w1 W : World) (a b : Int) (g k n : Nat) (xs : List Value) : Prop where
  own : W.ownsRow w.heap.size 5 1 (.slice (some ⟨g, 0, none⟩) n k) n xs
  ne0 : g ≠ w.heap.size
  ne1 : g ≠ w1.heap.size + 1
  size : w1.heap.size + 2 ≤ W.heap.size
  lt : w.heap.size < w1.heap.size
  x1 : W.cell? ⟨w.heap.size, 1, none⟩ = some (.int .i64 a)
  x2 : W.cell? ⟨w.heap.size, 2, none⟩ = some (.int .i64 b)
  l0 : W.cell? ⟨w1.heap.size + 1, 0, none⟩ = some (.int .i64 a)
  l1 : W.cell? ⟨w1.heap.size + 1, 1, none⟩ = some (.int .i64 b)
  below : Below w.heap.size w W
theorem EncS.keep {w w1 W W' : World} {a b : Int} {g k n : Nat} {xs : List Value} (h : EncS w w1 W a b g k n xs) (hb : Below W.heap.size W W') : EncS w w1 W' a b g k n xs where
  own := own_heap h.own fun q hq => hb.block q (h.own.lt q hq).2
  ne0 := h.ne0
  ne1 := h.ne1
  size := Nat.le_trans h.size hb.size
  lt := h.lt
  x1 := (hb.cell (p := ⟨w.heap.size, 1, none⟩) (by have := h.size; have := h.lt; show w.heap.size < _; omega)).trans h.x1
  x2 := (hb.cell (p := ⟨w.heap.size, 2, none⟩) (by have := h.size; have := h.lt; show w.heap.size < _; omega)).trans h.x2
  l0 := (hb.cell (p := ⟨w1.heap.size + 1, 0, none⟩) (by have := h.size; show w1.heap.size + 1 < _; omega)).trans h.l0
  l1 := (hb.cell (p := ⟨w1.heap.size + 1, 1, none⟩) (by have := h.size; show w1.heap.size + 1 < _; omega)).trans h.l1
  below := h.below.trans (hb.mono h.below.size)
theorem EncS.grown {w w1 W W' : World} {a b : Int} {g k n g' k' n' : Nat} {xs xs' : List Value} (h : EncS w w1 W a b g k n xs) {v : Value} (hv : v.ownBlock = some g) (hg : W.grownBy W' v.ownBlock)
    (ho : W'.ownsRow w.heap.size 5 1 (.slice (some ⟨g', 0, none⟩) n' k') n' xs') (hgg : v.ownBlock = some g' ∨ g' = W.heap.size) (hb : Below w.heap.size W W') : EncS w w1 W' a b g' k' n' xs' := by
  have F := grown_facts hg hv
  have hs := h.size
  have hl := h.lt
  have n0 := h.ne0
  have n1 := h.ne1
  refine ⟨ho, ?_, ?_, by have := F.2.2.2; omega, hl, (F.1 _ _ (by omega) (by omega)).trans h.x1, (F.1 _ _ (by omega) (by omega)).trans h.x2, (F.1 _ _ (by omega) (by omega)).trans h.l0, (F.1 _ _ (by omega) (by omega)).trans h.l1, h.below.trans hb⟩
  · rcases hgg with e | e
    · rw [hv] at e
      injection e with e
      omega
    · omega
  · rcases hgg with e | e
    · rw [hv] at e
      injection e with e
      omega
    · omega
theorem alloc_b (W : World) (o : Obj) : Below W.heap.size W (W.alloc o) := (Below.refl _ _).alloc (Nat.le_refl _) _
/-- A block that was made besides the row that grows. -/
structure NewS (nb : Nat) (W : World) (g : Nat) (L : List Value) : Prop where
  lt : nb < W.heap.size
  ne : nb ≠ g
  cells : ∀ j u, L[j]? = some u → W.cell? ((⟨nb, 0, none⟩ : Addr).add j) = some u
theorem NewS.made (W : World) (g : Nat) (hg : g < W.heap.size) (L : List Value) (t : TypeId) : NewS W.heap.size (W.alloc (.cells L.toArray t)) g L := ⟨by simp, by omega, cells_new W L t⟩
theorem NewS.made_at (W : World) (nb g : Nat) (hn : nb = W.heap.size) (hg : g < W.heap.size) (L : List Value) (t : TypeId) : NewS nb (W.alloc (.cells L.toArray t)) g L := by
  subst hn
  exact NewS.made W g hg L t
theorem NewS.keep {nb : Nat} {W W' : World} {g : Nat} {L : List Value} (h : NewS nb W g L) (hb : Below W.heap.size W W') : NewS nb W' g L :=
  ⟨Nat.lt_of_lt_of_le h.lt hb.size, h.ne, fun j u hu => by
    have := h.cells j u hu
    rw [add_cell] at this ⊢
    exact (hb.cell (p := ⟨nb, 0 + j, none⟩) h.lt).trans this⟩
theorem NewS.grown {nb : Nat} {W W' : World} {g g' : Nat} {L : List Value} (h : NewS nb W g L) {v : Value} (hv : v.ownBlock = some g) (hg : W.grownBy W' v.ownBlock) (hgg : v.ownBlock = some g' ∨ g' = W.heap.size) : NewS nb W' g' L := by
  have F := grown_facts hg hv
  have hl := h.lt
  have hn := h.ne
  refine ⟨by have := F.2.2.2; omega, ?_, fun j u hu => ?_⟩
  · rcases hgg with e | e
    · rw [hv] at e
      injection e with e
      omega
    · omega
  · have := h.cells j u hu
    rw [add_cell] at this ⊢
    exact (F.1 _ _ hl hn).trans this
theorem EncS.far {w w1 W : World} {a b : Int} {g k n gp : Nat} {xs : List Value} (hgp : W.heap.size ≤ gp) (h : EncS w w1 W a b g k n xs) : gp ≠ g := by
  have := (h.own.lt g rfl).2
  omega
theorem EncS.drew {w w1 W : World} {a b : Int} {g k n : Nat} {xs : List Value} (h : EncS w w1 W a b g k n xs) : EncS w w1 W.drew a b g k n xs := h.keep (Below.refl _ _).drew
/-- A call of a Go function, as a step of a region that draws. -/
theorem step_calls {P : Program} {ops : Array Oper} {o : Oper} {a : Act} {w : World} {K : Act → World → Prop} {Q : Exit → Act → World → Prop} {E : Prop} (hg : o.guard = none) (f : FuncId) (args : Array Value)
    (hr : (execOp a.eval o).run P w = .ok (.enter f args) w) (h : Calls P f args w fun e w' => ∃ v, e = .returned v ∧ K (a.put o.dst v) w') :
    if Region.wanted o (yielded ops a.tmps) = true then Oper.wp P o a w K Q else E := by
  have hw : Region.wanted o (yielded ops a.tmps) = true := by simp [Region.wanted, hg]
  rw [if_pos hw]
  unfold Oper.wp
  rw [hr]
  refine Calls.mono h ?_
  rintro e w' ⟨v, rfl, hk⟩
  exact hk
/-- 'append(s, x...)' onto a row of the call's own, as a step of a region that draws. -/
theorem step_lies {P : Program} {w : World} {ops : Array Oper} {o : Oper} {a : Act} {K : Act → World → Prop} {Q : Exit → Act → World → Prop} {E : Prop} (hgd : o.guard = none) (s x : Operand) (t : TypeId)
    (ho : o.op = .call { callee := .builtin .append, args := #[s, x], argTypes := #[t, t] }) {e : TypeId} {z : Value} {size bytes : Nat}
    (ht : P.underlying t = some (.slice e)) (hi : (P.info? e).map (fun i => (i.zero, i.size, i.bytes)) = some (some z, size, bytes)) (hzs : z.cells.size = size) (hsz : 0 < size)
    (base : Nat) {v : Value} {n : Nat} {xs : List Value} (hs : a.eval s = v) (hown : w.ownsRow base e size v n xs)
    {ad : Addr} {m c : Nat} {news : List Value} (hx : a.eval x = .slice (some ad) m c) (hl : news.length = m * size) (hnews : ∀ j u, news[j]? = some u → w.cell? (ad.add j) = some u) (h1 : ∀ u ∈ news, u.oneCell' = true)
    (hm : 0 < m) (h63 : n + m ≤ maxLen) (hbytes : (n + m) * bytes ≤ 140737488355328) (hbase : base ≤ w.heap.size)
    (h : ∀ g cap w', w'.ownsRow base e size (.slice (some ⟨g, 0, none⟩) (n + m) cap) (n + m) (xs ++ news) → w.grownBy w' v.ownBlock → Below base w w' → (v.ownBlock = some g ∨ g = w.heap.size) →
      K (a.put o.dst (.slice (some ⟨g, 0, none⟩) (n + m) cap)) w') : if Region.wanted o (yielded ops a.tmps) = true then Oper.wp P o a w K Q else E := by
  obtain ⟨i, hi, hz, hsize, hby⟩ := info_parts hi
  exact step_append_lies w hgd s x t ho base e i z size bytes ht hi hz hsize hby hzs hsz v n xs hs hown ad m c news hx hl hnews h1 hm h63 hbytes hbase _ rfl fun g cap w' h2 h3 h4 _ => h g cap w' h2 h3 ((Below.refl _ _).grown h3 hbase fun k hk => (hown.lt k hk).1) h4
end Go.Proofs.Ytgicbgeblgfnfaa
