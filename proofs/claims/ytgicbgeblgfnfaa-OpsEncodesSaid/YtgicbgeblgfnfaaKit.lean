/-
  General small laws, over any program: an element of an array that is a value.
-/
import Derived.Test.YtgicbgeblgfnfaaRows
import Derived.WalkKit
import Derived.WalkSpells
import Derived.WalkLawsBesides
set_option linter.unusedSimpArgs false
set_option linter.unusedVariables false
namespace Go.Proofs.Ytgicbgeblgfnfaa
open Go Go.RowKit

/-- An element of an array value whose elements are one cell each. -/
theorem run_index_arr {P : Program} {t e n : Nat} {d : TypeDesc} {z : Value} {b : Nat} (ht : P.underlying t = some (.array n e)) (hd : P.underlying e = some d)
    (hna : (match d with | .struct _ => true | .array _ _ => true | _ => false) = false) (hi : (P.info? e).map (fun i => (i.zero, i.size, i.bytes)) = some (some z, 1, b))
    (w : World) (k : IntKind) (cs : Array Value) (x : Int) (h0 : 0 ≤ x) (hx : x < n) (hs : cs.size = n) :
    (Instr.index t (.agg cs) (.int k x)).run P w = .ok (cs.getD x.toNat undef) w := by
  obtain ⟨i, hi, _, h1, _⟩ := info_parts hi
  have hlt : x.toNat < cs.size := by omega
  have hag : (isAgg e).run P w = .ok false w := by
    simp only [isAgg, run_underlying hd, Sem.run_bind, Result.andThen]
    cases d <;> simp_all
  simp only [Instr.index, asIntOf, run_underlying ht, Sem.run_bind, Sem.run_pure, Result.andThen, h0, hx, and_self, if_true, sizeOf, typeInfo, hi, h1, Nat.mul_one, part, hag]
  simp [hi, hag, hlt, Array.getD, h1]
/-- A row of operations that compute and make memory alone, run as a function; what it leaves in one slot, and the world. -/
noncomputable def runList (P : Program) (ops : Array Oper) : List Oper → Act → World → Option (Act × World)
  | [], a, w => some (a, w)
  | o :: rest, a, w =>
    match Region.wanted o (yielded ops a.tmps) with
    | true =>
      match (execOp a.eval o).run P w with
      | .ok (.value v) w' => runList P ops rest (a.put o.dst v) w'
      | .ok .skip w' => runList P ops rest (a.put o.dst undef) w'
      | _ => none
    | false => runList P ops rest (a.put o.dst undef) w
theorem wpList_runList {P : Program} {ops : Array Oper} {Q : Exit → Act → World → Prop} : ∀ (l : List Oper) (a : Act) (w : World) (a' : Act) (w' : World),
    runList P ops l a w = some (a', w') → Q .normal a' w' → wpList P ops Q l a w
  | [], a, w, a', w', h, hq => by
    simp only [runList, Option.some.injEq, Prod.mk.injEq] at h
    obtain ⟨rfl, rfl⟩ := h
    exact hq
  | o :: rest, a, w, a', w', h, hq => by
    unfold runList at h
    unfold wpList
    split at h
    · rename_i hw
      rw [if_pos hw]
      left
      unfold Oper.wp
      split at h
      · rename_i v w1 hr
        rw [hr]
        exact wpList_runList rest _ _ _ _ h hq
      · rename_i w1 hr
        rw [hr]
        exact wpList_runList rest _ _ _ _ h hq
      · cases h
    · rename_i hw
      rw [if_neg (by rw [hw]; decide)]
      exact wpList_runList rest _ _ _ _ h hq
theorem wpList_run {P : Program} {ops : Array Oper} {Q : Exit → Act → World → Prop} {l : List Oper} {a : Act} {w : World} (t : Tmp) (v : Value) (w' : World)
    (h : (runList P ops l a w).map (fun r => (r.1.tmps.getD t undef, r.1.defers, r.2)) = some (v, [], w'))
    (hq : ∀ a' : Act, a'.tmps.getD t undef = v → a'.defers = [] → Q .normal a' w') : wpList P ops Q l a w := by
  obtain ⟨⟨a', w1⟩, hr, he⟩ := Option.map_eq_some_iff.1 h
  simp only [Prod.mk.injEq] at he
  obtain ⟨h1, h2, rfl⟩ := he
  exact wpList_runList l a w a' w1 hr (hq a' h1 h2)
/-- What a call that makes memory alone leaves: each old cell, each old mark. -/
theorem bcell {W w1 : World} (hb : Below W.heap.size W w1) : (∀ b o, b < W.heap.size → w1.cell? ⟨b, o, none⟩ = W.cell? ⟨b, o, none⟩) ∧ (∀ b o, b < W.heap.size → w1.frozen? ⟨b, o, none⟩ = W.frozen? ⟨b, o, none⟩) :=
  ⟨fun b o h => hb.cell (p := ⟨b, o, none⟩) h, fun b o h => hb.frozen (p := ⟨b, o, none⟩) h⟩
theorem cells_new (w : World) (l : List Value) (t : TypeId) : ∀ j u, l[j]? = some u → (w.alloc (.cells l.toArray t)).cell? ((⟨w.heap.size, 0, none⟩ : Addr).add j) = some u := by
  intro j u hj
  have e : ((⟨w.heap.size, 0, none⟩ : Addr).add j) = ⟨w.heap.size, j, none⟩ := by
    unfold Addr.add
    split <;> simp_all
  rw [e]
  unfold World.cell?
  rw [heap_alloc_new]
  simpa using hj
/-- 'append(s, x...)' onto a row of the call's own, x at an address: what is owned, and that what lay below the base stays. -/
theorem wpl_append {P : Program} {w : World} {ops : Array Oper} {rest : List Oper} {o : Oper} {a : Act} {Q : Exit → Act → World → Prop} (hgd : o.guard = none) (s x : Operand) (t : TypeId)
    (ho : o.op = .call { callee := .builtin .append, args := #[s, x], argTypes := #[t, t] }) {e : TypeId} {z : Value} {size bytes : Nat}
    (ht : P.underlying t = some (.slice e)) (hi : (P.info? e).map (fun i => (i.zero, i.size, i.bytes)) = some (some z, size, bytes)) (hzs : z.cells.size = size) (hsz : 0 < size)
    (base : Nat) {v : Value} {n : Nat} {xs : List Value} (hs : a.eval s = v) (hown : w.ownsRow base e size v n xs)
    {ad : Addr} {m c : Nat} {news : List Value} (hx : a.eval x = .slice (some ad) m c) (hl : news.length = m * size) (hnews : ∀ j u, news[j]? = some u → w.cell? (ad.add j) = some u) (h1 : ∀ u ∈ news, u.oneCell' = true)
    (h63 : n + m ≤ maxLen) (hbytes : (n + m) * bytes ≤ 140737488355328) (hbase : base ≤ w.heap.size)
    (h : ∀ v' w', w'.ownsRow base e size v' (n + m) (xs ++ news) → w.grownBy w' v.ownBlock → Below base w w' → wpList P ops Q rest (a.put o.dst v') w') : wpList P ops Q (o :: rest) a w := by
  obtain ⟨i, hi, hz, hsize, hby⟩ := info_parts hi
  refine wpList_append_own w hgd s x t ho base e i z size bytes ht hi hz hsize hby hzs hsz v n xs hs hown ad m c news hx hl hnews h1 h63 hbytes hbase fun v' w' h2 h3 _ => h v' w' h2 h3 ?_
  exact (Below.refl _ _).grown h3 hbase fun k hk => (hown.lt k hk).1
theorem info_u8 : (Try.prog.info? 5).map (fun i => (i.zero, i.size, i.bytes)) = some (some (.int .u8 0), 1, 1) := by kernel_rfl
theorem info_int : (Try.prog.info? 3).map (fun i => (i.zero, i.size, i.bytes)) = some (some (.int .i64 0), 1, 8) := by kernel_rfl
theorem info_string : (Try.prog.info? 9).map (fun i => (i.zero, i.size, i.bytes)) = some (some (.string ⟨#[]⟩), 1, 16) := by kernel_rfl
end Go.Proofs.Ytgicbgeblgfnfaa
