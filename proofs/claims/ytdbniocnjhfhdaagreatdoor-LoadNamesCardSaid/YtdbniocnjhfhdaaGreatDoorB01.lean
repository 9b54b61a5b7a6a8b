/-
  What the loader's laws rest on, part 1: walks of the program's functions and plain laws. Conditions: none but those that each theorem names.
-/
import Derived.Test.YtdbniocnjhfhdaaGreatDoorB00
import Derived.StillTailTactics
import Derived.Deep.QuietTactic
import Derived.BigQuiet
import Derived.Deep.AppendLies
import Derived.Deep.RegionLaw
/-
  General small laws: a region that draws its order, whose last few operations wait for all others.
-/
set_option linter.unusedSimpArgs false
set_option linter.unusedVariables false
namespace Go.Proofs.YtdbniocnjhfhdaaGreatDoor
open Go Go.RowKit Lib
theorem wp_region_tail {P : Program} {id : Nat} {Q : Exit → Act → World → Prop} {a : Act} {w : World} {l : List Oper} (n : Nat) (hm : P.follows .mixedOrders = true) (hB : Region.lexTailB .any l.toArray n = true)
    (h : wpStill P l.toArray (w.drewN 1) (fun a' => wpList P l.toArray Q (l.drop n) a' (w.drewN 1)) (l.take n) a) : (Code.region id l.toArray true).wp P Q a w := wp_region_still_tail n hm hB h
theorem still_of_quiet {P : Program} {ops : Array Oper} {w : World} {Q : Act → Prop} : ∀ (l : List Oper) (a : Act), wpQuiet P ops (fun x => x = w) Q l a → wpStill P ops w Q l a
  | [], _, h => h
  | o :: rest, a, h => by
    unfold wpQuiet at h
    unfold wpStill
    split at h
    · rename_i hw
      rw [if_pos hw]
      obtain ⟨v, h1, h2⟩ := h
      have h3 := h1 w rfl
      unfold Oper.quietAt at h3
      unfold Oper.still
      generalize (execOp a.eval o).run P w = r at h3 ⊢
      unfold Oper.quietUpon at h3
      unfold Oper.stillUpon
      split at h3
      · obtain ⟨rfl, rfl⟩ := h3
        exact ⟨rfl, still_of_quiet rest _ h2⟩
      · obtain ⟨rfl, rfl⟩ := h3
        exact ⟨rfl, still_of_quiet rest _ h2⟩
      · exact ⟨h3.1, v, h3.2, still_of_quiet rest _ h2⟩
      · exact h3.elim
    · rename_i hw
      rw [if_neg hw]
      exact still_of_quiet rest _ h
/-- A region that draws its order, its head only reading, its tail in one order: the head walked as go_quiet walks, in the world behind the one draw. -/
theorem wp_region_head {P : Program} {id : Nat} {Q : Exit → Act → World → Prop} {a : Act} {w : World} {l : List Oper} (n : Nat) (hm : P.follows .mixedOrders = true) (hB : Region.lexTailB .any l.toArray n = true)
    (h : wpQuiet P l.toArray (fun x => x = w.drewN 1) (fun a' => wpList P l.toArray Q (l.drop n) a' (w.drewN 1)) (l.take n) a) : (Code.region id l.toArray true).wp P Q a w := wp_region_tail n hm hB (still_of_quiet _ _ h)
section Floating
variable {P : Program} {Q : Exit → Act → World → Prop}
def edgesOf (S : List Nat) : Array Edge := (S.map fun i => ({ on := i, ground := .data } : Edge)).toArray
def plus (S : List Nat) (o : Oper) : Oper := { o with after := o.after ++ edgesOf S }
/-- The same operations, number n waiting for those of S as well. -/
def addE (l : List Oper) (n : Nat) (S : List Nat) : List Oper := l.modify n (plus S)
theorem addE_get (l : List Oper) (n : Nat) (S : List Nat) (j : Nat) : (addE l n S).toArray[j]? = (l.toArray[j]?).map (fun o => if n = j then plus S o else o) := by
  unfold addE
  simp only [List.getElem?_toArray, List.getElem?_modify]
  cases l[j]? <;> rfl
theorem yielded_addE (l : List Oper) (n : Nat) (S : List Nat) (t : Array Value) : yielded (addE l n S).toArray t = yielded l.toArray t := by
  funext j
  unfold yielded
  rw [addE_get]
  cases l.toArray[j]? with
  | none => rfl
  | some o => by_cases h : n = j <;> simp [h, plus]
theorem plus_wp (S : List Nat) (o : Oper) (a : Act) (w : World) (K : Act → World → Prop) : (plus S o).wp P a w K Q = o.wp P a w K Q := by cases o; rfl
theorem plus_asks (S : List Nat) (o : Oper) (a : Act) (w : World) : (plus S o).asks P a w = o.asks P a w := by cases o; rfl
theorem plus_still (S : List Nat) (o : Oper) (a : Act) (w : World) (K : Act → Prop) : (plus S o).still P a w K = o.still P a w K := by cases o; rfl
theorem plus_wanted (S : List Nat) (o : Oper) (y : Nat → Option Bool) : Region.wanted (plus S o) y = Region.wanted o y := by cases o; rfl
theorem ready_addE {l : List Oper} {n : Nat} {S : List Nat} {listed : Array Bool} (h : ∀ i ∈ S, listed.getD i false = true) :
    Region.ready .any (addE l n S).toArray listed = Region.ready .any l.toArray listed := by
  unfold Region.ready
  have hsz : (addE l n S).toArray.size = l.toArray.size := by simp [addE]
  rw [hsz]
  apply List.filter_congr
  intro i _
  rw [addE_get]
  congr 1
  cases l.toArray[i]? with
  | none => rfl
  | some o =>
    by_cases hn : n = i
    · have e : (edgesOf S).all (fun e => !Region.binds .any e || listed.getD e.on false) = true := by
        rw [Array.all_eq_true_iff_forall_mem]
        intro e he
        simp only [edgesOf, List.mem_toArray, List.mem_map] at he
        obtain ⟨i, hi, rfl⟩ := he
        rw [h i hi]
        simp
      simp only [Option.map_some, Option.getD_some, hn, if_true, plus, Array.all_append, e, Bool.and_true]
    · simp [hn]
theorem wpOp_addE {l : List Oper} {n : Nat} {S : List Nat} {i : Nat} {K : Act → World → Prop} {a : Act} {w : World} (h : wpOp P (addE l n S).toArray Q i K a w) : wpOp P l.toArray Q i K a w := by
  unfold wpOp at h ⊢
  rw [addE_get, yielded_addE] at h
  cases ho : l.toArray[i]? with
  | none => rw [ho] at h; exact h
  | some o =>
    rw [ho] at h
    by_cases hn : n = i
    · simp only [Option.map_some, hn, if_true, plus_wp, plus_asks, plus_wanted] at h
      exact h
    · simp only [Option.map_some, hn, if_false] at h
      exact h
theorem getD_mono {listed : Array Bool} {S : List Nat} (h : ∀ i ∈ S, listed.getD i false = true) (j : Nat) : ∀ i ∈ S, (listed.setIfInBounds j true).getD i false = true := fun i hi => getD_set_true (h i hi)
theorem any_addE {l : List Oper} {n : Nat} {S : List Nat} : ∀ (f : Nat) (listed : Array Bool) (a : Act) (w : World), (∀ i ∈ S, listed.getD i false = true) →
    wpAny P .any (addE l n S).toArray Q f listed a w → wpAny P .any l.toArray Q f listed a w
  | 0, listed, a, w, hS, h => ⟨by rw [← ready_addE hS]; exact h.1, h.2⟩
  | f + 1, listed, a, w, hS, h => by
    refine ⟨fun h0 => h.1 (by rw [ready_addE hS]; exact h0), fun i hi => ?_⟩
    have h1 := h.2 i (by rw [ready_addE hS]; exact hi)
    exact wpOp_mono (fun a' w' h2 => any_addE f _ a' w' (getD_mono hS i) h2) (wpOp_addE h1)
theorem list_addE {ops : Array Oper} {l : List Oper} {n : Nat} {S : List Nat} (hops : ops = (addE l n S).toArray) : ∀ (r : List Oper) (a : Act) (w : World), wpList P l.toArray Q r a w → wpList P ops Q r a w
  | [], _, _, h => h
  | o :: r, a, w, h => by
    unfold wpList at h ⊢
    rw [hops, yielded_addE]
    split
    · rename_i hw
      rw [if_pos hw] at h
      exact h.imp (Oper.wp_mono fun a' w' h2 => by rw [← hops]; exact list_addE hops r a' w' h2) id
    · rename_i hw
      rw [if_neg hw] at h
      rw [← hops]
      exact list_addE hops r _ w h
theorem list_head {ops : Array Oper} {S : List Nat} {o : Oper} {r : List Oper} {a : Act} {w : World} (h : wpList P ops Q (o :: r) a w) : wpList P ops Q (plus S o :: r) a w := by
  unfold wpList at h ⊢
  rw [plus_wanted, plus_wp, plus_asks]
  exact h
theorem still_addE {w : World} {Q' : Act → Prop} {ops : Array Oper} {l : List Oper} {n : Nat} {S : List Nat} (hops : ops = (addE l n S).toArray) : ∀ (r : List Oper) (a : Act), wpStill P l.toArray w Q' r a → wpStill P ops w Q' r a
  | [], _, h => h
  | o :: r, a, h => by
    unfold wpStill at h ⊢
    rw [hops, yielded_addE]
    split
    · rename_i hw
      rw [if_pos hw] at h
      exact Oper.still_mono (fun a' h2 => by rw [← hops]; exact still_addE hops r a' h2) h
    · rename_i hw
      rw [if_neg hw] at h
      rw [← hops]
      exact still_addE hops r _ h
theorem still_goal {w : World} {Q1 Q2 : Act → Prop} {ops : Array Oper} (hQ : ∀ a, Q1 a → Q2 a) : ∀ (r : List Oper) (a : Act), wpStill P ops w Q1 r a → wpStill P ops w Q2 r a
  | [], a, h => hQ a h
  | o :: r, a, h => by
    unfold wpStill at h ⊢
    split
    · rename_i hw
      rw [if_pos hw] at h
      exact Oper.still_mono (fun a' h2 => still_goal hQ r a' h2) h
    · rename_i hw
      rw [if_neg hw] at h
      exact still_goal hQ r _ h
def movesFrom (o : Oper) : Option Operand := match o.op with | .move x => if o.guard.isNone then some x else none | _ => none
theorem movesFrom_op {o : Oper} {x : Operand} (h : movesFrom o = some x) : o.op = .move x ∧ o.guard = none := by
  unfold movesFrom at h
  split at h
  · rename_i y hy
    split at h
    · rename_i hg
      injection h with h
      subst h
      exact ⟨hy, by simpa using hg⟩
    · cases h
  · cases h
/-- The moves of S can be taken first, one behind the other. -/
def floatsB (l : List Oper) (n : Nat) : Array Bool → List Nat → Bool
  | _, [] => true
  | listed, i :: S => (match l.toArray[i]? with | some o => (movesFrom o).isSome | none => false) && decide (i < n) && Region.free .any l.toArray listed i && (Region.ready .any l.toArray listed).contains i && floatsB l n (listed.setIfInBounds i true) S
theorem float_moves {l : List Oper} {n : Nat} {T : List Nat} {w : World} {L : Array Bool → Act → Prop} {g : Nat} (hsel : Region.noSelect l.toArray = true) (hQ : ∀ c a w d v, Q (.panic c) (a.put d v) w → Q (.panic c) a w)
    (hL : ∀ listed a, L listed a → wpAny P .any (addE l n T).toArray Q g listed a w) :
    ∀ (S : List Nat) (f : Nat) (listed : Array Bool) (a : Act), f + 0 = f → (∀ i ∈ T, listed.getD i false = true ∨ i ∈ S) → floatsB l n listed S = true → S.length ≤ f →
      wpAnyL P .any (addE l n T).toArray w n L f listed a → wpAny P .any l.toArray Q (f + g) listed a w
  | [], f, listed, a, _, hT, _, _, h => any_addE _ _ _ _ (fun i hi => (hT i hi).resolve_right (by simp)) (wpAny_of_head hL f listed a h)
  | i :: S, 0, _, _, _, _, _, hf, _ => by simp at hf
  | i :: S, f + 1, listed, a, _, hT, hB, hf, h => by
    simp only [floatsB, Bool.and_eq_true, decide_eq_true_eq] at hB
    obtain ⟨⟨⟨⟨hm, hin⟩, hfree⟩, hr⟩, hB'⟩ := hB
    cases ho : l.toArray[i]? with
    | none => rw [ho] at hm; cases hm
    | some o =>
      rw [ho] at hm
      obtain ⟨x, hx⟩ := Option.isSome_iff_exists.1 hm
      obtain ⟨hop, hg⟩ := movesFrom_op hx
      have ho' : (addE l n T).toArray[i]? = some o := by
        rw [addE_get, ho]
        have : ¬ n = i := by omega
        simp [this]
      have hw : ∀ y, Region.wanted o y = true := fun y => by simp [Region.wanted, hg]
      have hr' : i ∈ Region.ready .any (addE l n T).toArray listed := by
        have := mem_ready.1 (show i ∈ Region.ready .any l.toArray listed by simpa using hr)
        obtain ⟨h0, o2, ho2, hall⟩ := this
        rw [ho] at ho2
        injection ho2 with ho2
        subst ho2
        exact mem_ready.2 ⟨h0, o, ho', hall⟩
      have h1 := (h.2 i hr').2
      unfold stOp at h1
      simp only [ho', hw, if_true] at h1
      unfold Oper.still at h1
      rw [BigFrame.run_move x hop w] at h1
      have h2 := h1.2
      rw [show f + 1 + g = (f + g) + 1 by omega]
      refine wpAny_take ho hsel hfree hr (fun c a w => hQ c a w _ _) (.inl ⟨hw _, fun w => BigFrame.run_move x hop w⟩) ?_
      refine float_moves hsel hQ hL S f _ _ rfl (fun j hj => ?_) hB' (by simp at hf; omega) h2
      have hlt : i < listed.size := by
        have h0 := (mem_ready.1 hr').1
        rcases Nat.lt_or_ge i listed.size with h' | h'
        · exact h'
        · simp [Array.getElem?_eq_none h'] at h0
      rcases hT j hj with h3 | h3
      · exact .inl (getD_set_true h3)
      · rcases List.mem_cons.1 h3 with rfl | h3
        · left
          simp [hlt]
        · exact .inr h3
def floatTailB (l : List Oper) (n : Nat) (S : List Nat) : Bool :=
  Region.lexTailB .any (addE l n S).toArray n && floatsB l n (Array.replicate l.toArray.size false) S && decide (S.length ≤ n) && Region.noSelect l.toArray
/-- A region that draws its order: the moves of S wait for nothing and may come late; all other operations of the head only read, and the tail stands in one order behind them. -/
theorem wp_region_float {id : Nat} {a : Act} {w : World} {l : List Oper} (n : Nat) (S : List Nat) (hm : P.follows .mixedOrders = true) (hB : floatTailB l n S = true) (hQ : ∀ c a w d v, Q (.panic c) (a.put d v) w → Q (.panic c) a w)
    (h : wpQuiet P l.toArray (fun x => x = w.drewN 1) (fun a' => wpList P l.toArray Q (l.drop n) a' (w.drewN 1)) (l.take n) a) : (Code.region id l.toArray true).wp P Q a w := by
  simp only [floatTailB, Region.lexTailB, Bool.and_eq_true, decide_eq_true_eq] at hB
  obtain ⟨⟨⟨⟨⟨⟨⟨hsel', hn⟩, hs⟩, hc⟩, hlex⟩, hfl⟩, hSn⟩, hsel⟩ := hB
  obtain ⟨ops, hops⟩ : ∃ ops, ops = (addE l n S).toArray := ⟨_, rfl⟩
  have hsz : ops.size = l.toArray.size := by rw [hops]; simp [addE]
  have hn' : n < l.length := by rw [← hops, hsz] at hn; simpa using hn
  have htl : (l.take n).length = n := by simp; omega
  have hget : ∀ j, n ≠ j → ops[j]? = l[j]? := fun j hj => by
    rw [hops, addE_get, List.getElem?_toArray]
    cases l[j]? <;> simp [hj]
  have inv0 : HeadInv .any ops n (Array.replicate l.toArray.size false) :=
    ⟨by simp [hsz], fun j oj _ hl => (by rw [getD_replicate_false] at hl; cases hl), fun t _ ht => getD_in (by rw [Array.size_replicate, ← hsz]; exact ht) (getD_replicate_false _ _)⟩
  rw [← hops] at hs hc hlex hsel' hn
  rw [hsz] at hlex
  have h1 := still_addE (n := n) (S := S) hops _ _ (still_of_quiet _ _ h)
  have H := wpAnyL_lex (md := .any) (g := l.toArray.size - n) hsel' hs hc hn (l.take n) 0 _ a (fun j hj => by
    have hj' : j < n := by rw [htl] at hj; exact hj
    rw [Nat.zero_add, hget j (by omega), List.getElem?_take_of_lt hj']) (by simpa using htl) inv0 (by rw [htl]; exact hlex) h1
  refine wp_region_any hm ?_
  obtain ⟨o, ho⟩ : ∃ o, l[n]? = some o := ⟨_, List.getElem?_eq_getElem hn'⟩
  have hdrop : l.drop n = o :: l.drop (n + 1) := by
    rw [List.drop_eq_getElem_cons hn']
    congr 1
    rw [List.getElem?_eq_getElem hn'] at ho
    injection ho
  have := float_moves (P := P) (Q := Q) (l := l) (n := n) (T := S) (w := w.drewN 1) (L := fun listed' a' => Region.seqB .any ops (l.toArray.size - n) n listed' = true ∧ wpList P l.toArray Q (l.drop n) a' (w.drewN 1)) (g := l.toArray.size - n) hsel hQ (fun listed a' hL => by
    have hd := list_head (S := S) (list_addE (n := n) (S := S) hops _ _ _ (hdrop ▸ hL.2))
    have := wpAny_of_seq (md := .any) (Q' := Q) (plus S o :: l.drop (n + 1)) n listed a' (w.drewN 1) (fun j => by
      rcases j with _ | j
      · rw [hops, addE_get, List.getElem?_toArray]
        simp only [Nat.add_zero]
        rw [ho]
        simp
      · rw [hget _ (by omega)]
        simp [List.getElem?_drop, Nat.add_comm, Nat.add_left_comm, Nat.add_assoc]) (by
          rw [List.length_cons, List.length_drop, show l.length - (n + 1) + 1 = l.toArray.size - n by simp; omega]
          exact hL.1) hd
    rw [List.length_cons, List.length_drop, show l.length - (n + 1) + 1 = l.toArray.size - n by simp; omega] at this
    rw [← hops]
    exact this) S n _ a rfl (fun i hi => .inr hi) hfl hSn (by rw [htl] at H; exact hops ▸ H)
  rw [show n + (l.toArray.size - n) = l.toArray.size by simp; omega] at this
  exact this
end Floating
end Go.Proofs.YtdbniocnjhfhdaaGreatDoor
/-
  General small laws: what a call leaves of the world but for some blocks; appends and stores as steps of a region that draws.
-/
set_option linter.unusedSimpArgs false
set_option linter.unusedVariables false
namespace Go.Proofs.YtdbniocnjhfhdaaGreatDoor
open Go Go.RowKit Lib Go.Maps
/-- Below B all blocks are as they were, but for those of S. -/
structure But (B : Nat) (S : List Nat) (w w' : World) : Prop where
  os : w'.os = w.os
  tape : w'.tape = w.tape
  output : w'.output = w.output
  size : w.heap.size ≤ w'.heap.size
  block : ∀ k, k < B → k ∉ S → w'.heap[k]? = w.heap[k]?
theorem But.of_below {B : Nat} {S : List Nat} {w w' : World} (h : Below B w w') : But B S w w' := ⟨h.os, h.tape, h.output, h.size, fun k hk _ => h.block k hk⟩
theorem But.below {B : Nat} {w w' : World} (h : But B [] w w') : Below B w w' := ⟨h.os, h.tape, h.output, h.size, fun k hk => h.block k hk (by simp)⟩
theorem But.refl (B : Nat) (S : List Nat) (w : World) : But B S w w := ⟨rfl, rfl, rfl, Nat.le_refl _, fun _ _ _ => rfl⟩
theorem But.trans {B : Nat} {S : List Nat} {a b c : World} (h : But B S a b) (k : But B S b c) : But B S a c :=
  ⟨k.os.trans h.os, k.tape.trans h.tape, k.output.trans h.output, Nat.le_trans h.size k.size, fun i hi hs => (k.block i hi hs).trans (h.block i hi hs)⟩
theorem But.mono {B B' : Nat} {S S' : List Nat} {w w' : World} (h : But B S w w') (hB : B' ≤ B) (hS : ∀ k, k < B' → k ∈ S → k ∈ S') : But B' S' w w' :=
  ⟨h.os, h.tape, h.output, h.size, fun k hk hs => h.block k (by omega) (fun hk' => hs (hS k hk hk'))⟩
theorem But.grown {B : Nat} {S : List Nat} {a w w' : World} {row : Option Nat} (h : But B S a w) (hg : w.grownBy w' row) (hB : B ≤ w.heap.size) (hr : ∀ k, row = some k → k ∈ S ∨ B ≤ k) : But B S a w' :=
  h.trans ⟨hg.os, hg.tape, hg.output, hg.size, fun k hk hs => hg.block k (by omega) (fun e => by
    rcases hr k e.symm with h1 | h1
    · exact hs h1
    · omega)⟩
theorem But.cell {B : Nat} {S : List Nat} {w w' : World} (h : But B S w w') {p : Addr} (hp : p.block < B) (hs : p.block ∉ S) : w'.cell? p = w.cell? p := World.cell?_of_block (w := w) (h.block p.block hp hs)
theorem But.frozen {B : Nat} {S : List Nat} {w w' : World} (h : But B S w w') {p : Addr} (hp : p.block < B) (hs : p.block ∉ S) : w'.frozen? p = w.frozen? p := World.frozen?_of_block (w := w) (h.block p.block hp hs)
theorem MapS.but {w w' : World} {P : Program} {k : TypeId} {b n sz : Nat} {f : List UInt8 → Option Value} (h : MapS w P k b n f sz) {B : Nat} {S : List Nat} (hb : But B S w w') (hB : b < B) (hs : b ∉ S) : MapS w' P k b n f sz := h.keep (hb.block b hB hs)
/-- 'm[k] = v', as an equation. -/
theorem MapS.store {P : Program} {w : World} {k e t : TypeId} {b n sz : Nat} {f : List UInt8 → Option Value} (h : MapS w P k b n f sz) (hk : P.underlying k = some .string) (ht : P.underlying t = some (.map k e)) (hn : n < maxLen)
    {s : ByteArray} (hs : s.size ≤ maxLen) (u : Value) : ∃ w', (Instr.mapUpdate t (.map (some b)) (.string s) u).run P w = .ok () w' ∧ MapS w' P k b (n + 1) (putF f s.data.toList u) (if (f s.data.toList).isSome then sz else sz + 1) ∧ w.grownBy w' (some b) := by
  obtain ⟨D, hown, hsz, hat, hh⟩ := h
  have ht' := hown.tidy (string_keyed hk)
  obtain ⟨w', hrun, h1, h2⟩ := hown.store (string_keyed hk) ht hn (Go.WideMaps.keyOf_string_mk hk hs) (val := u) (d := .held u) (ps := []) rfl
  refine ⟨w', hrun, ⟨_, h1, ?_, ?_, ?_⟩, h2.grown⟩
  · rw [size_put ht', hh, hsz]
  · intro s' z
    unfold putF
    by_cases hs' : s' = s.data.toList
    · subst hs'
      rw [atKey_put_same ht'.isMap (by simp [WideAt.IsKeyLit]), if_pos rfl]
      rfl
    · rw [atKey_put_other (lit_ne hs'), if_neg hs', hat]
  · intro s'
    unfold putF
    by_cases hs' : s' = s.data.toList
    · subst hs'
      rw [has_put_same ht'.isMap (by simp [WideAt.IsKeyLit]), if_pos rfl]
      rfl
    · rw [has_put_other (lit_ne hs'), if_neg hs', hh]
theorem own_run {P : Program} (w : World) (t ty : TypeId) {e : TypeId} {z : Value} {size bytes : Nat}
    (ht : P.underlying t = some (.slice e)) (hi : (P.info? e).map (fun i => (i.zero, i.size, i.bytes)) = some (some z, size, bytes)) (hzs : z.cells.size = size) (hsz : 0 < size)
    (base : Nat) {v : Value} {n : Nat} {xs : List Value} (hown : w.ownsRow base e size v n xs)
    {A : Option Addr} {m c : Nat} {news : List Value} (hl : news.length = m * size) (hnews : 0 < m → ∃ ad, A = some ad ∧ ∀ j u, news[j]? = some u → w.cell? (ad.add j) = some u) (h1 : ∀ u ∈ news, u.oneCell' = true)
    (h63 : n + m ≤ maxLen) (hbytes : (n + m) * bytes ≤ 140737488355328) (hbase : base ≤ w.heap.size) :
    ∃ v' w', (Builtin.append_ #[t, t] ty #[v, .slice A m c]).run P w = .ok v' w' ∧ w'.ownsRow base e size v' (n + m) (xs ++ news) ∧ w.grownBy w' v.ownBlock ∧ Below base w w' := by
  obtain ⟨i, hi, hz, hsize, hby⟩ := info_parts hi
  rcases A with _ | ad
  · have hm : m = 0 := by
      rcases Nat.eq_zero_or_pos m with h0 | h0
      · exact h0
      · obtain ⟨ad, h, _⟩ := hnews h0
        cases h
    subst hm
    have hn : news = [] := List.eq_nil_of_length_eq_zero (by simpa using hl)
    subst hn
    exact ⟨v, w, run_append_nothing w base t ty e i size ht hi v n xs hown c, by simpa using hown, World.grownBy.refl w _, Below.refl _ _⟩
  · have hcells : ∀ j u, news[j]? = some u → w.cell? (ad.add j) = some u := by
      intro j u hu
      rcases Nat.eq_zero_or_pos m with h0 | h0
      · subst h0
        have hn : news = [] := List.eq_nil_of_length_eq_zero (by simpa using hl)
        subst hn
        simp at hu
      · obtain ⟨ad', h, hc⟩ := hnews h0
        injection h with h
        subst h
        exact hc j u hu
    obtain ⟨v', w', hrun, h2, h3, _, h5⟩ := run_append_own_at (P := P) w base t ty e i z size bytes ht hi hz hsize hby hzs hsz v n xs hown ad m c news hl hcells h1 h63 hbytes hbase
    exact ⟨v', w', hrun, h2, h3, (Below.refl _ _).grown h3 hbase fun k hk => (hown.lt k hk).1⟩
/-- 'append(s, x...)' onto a row of the call's own, the source nil, empty or not, as a step of a region that draws. -/
theorem step_own {P : Program} {w : World} {ops : Array Oper} {o : Oper} {a : Act} {K : Act → World → Prop} {Q : Exit → Act → World → Prop} {E : Prop} (hgd : o.guard = none) (s x : Operand) (t : TypeId)
    (ho : o.op = .call { callee := .builtin .append, args := #[s, x], argTypes := #[t, t] }) {e : TypeId} {z : Value} {size bytes : Nat}
    (ht : P.underlying t = some (.slice e)) (hi : (P.info? e).map (fun i => (i.zero, i.size, i.bytes)) = some (some z, size, bytes)) (hzs : z.cells.size = size) (hsz : 0 < size)
    (base : Nat) {v : Value} {n : Nat} {xs : List Value} (hs : a.eval s = v) (hown : w.ownsRow base e size v n xs)
    {A : Option Addr} {m c : Nat} {news : List Value} (hx : a.eval x = .slice A m c) (hl : news.length = m * size) (hnews : 0 < m → ∃ ad, A = some ad ∧ ∀ j u, news[j]? = some u → w.cell? (ad.add j) = some u) (h1 : ∀ u ∈ news, u.oneCell' = true)
    (h63 : n + m ≤ maxLen) (hbytes : (n + m) * bytes ≤ 140737488355328) (hbase : base ≤ w.heap.size)
    (h : ∀ v' w', w'.ownsRow base e size v' (n + m) (xs ++ news) → w.grownBy w' v.ownBlock → Below base w w' → K (a.put o.dst v') w') : if Region.wanted o (yielded ops a.tmps) = true then Oper.wp P o a w K Q else E := by
  have hw : Region.wanted o (yielded ops a.tmps) = true := by simp [Region.wanted, hgd]
  rw [if_pos hw]
  obtain ⟨v', w', hr, h2, h3, h4⟩ := own_run (P := P) w t o.type ht hi hzs hsz base hown (A := A) (m := m) (c := c) hl hnews h1 h63 hbytes hbase
  unfold Oper.wp execOp
  simp only [ho, resolve, invoke, builtin, Sem.run_bind, Sem.run_pure, Result.andThen_ok, List.map_toArray, List.map_cons, List.map_nil, hs, hx, hr]
  exact h v' w' h2 h3 h4
end Go.Proofs.YtdbniocnjhfhdaaGreatDoor
/-
  The forms of a class file and of what is read out of it, as plain data; and what of them lies in memory.
-/
set_option linter.unusedSimpArgs false
set_option linter.unusedVariables false
namespace Go.Proofs.YtdbniocnjhfhdaaGreatDoor
open Go Go.RowKit Lib
/-- A constant, as the program keeps it. -/
structure Ko where
  tag : Int
  text : ByteArray
  num : Int
  a : Int
  b : Int
def Ko.cells (k : Ko) : List Value := [.int .i64 k.tag, .string k.text, .int .i64 k.num, .int .i64 k.a, .int .i64 k.b]
structure FieldV where
  acc : Int
  name : Int
  desc : Int
  value : Int
def FieldV.cells (f : FieldV) : List Value := [.int .i64 f.acc, .int .i64 f.name, .int .i64 f.desc, .int .i64 f.value]
structure TrapV where
  lo : Int
  hi : Int
  tgt : Int
  kind : Int
def TrapV.cells (f : TrapV) : List Value := [.int .i64 f.lo, .int .i64 f.hi, .int .i64 f.tgt, .int .i64 f.kind]
structure MethV where
  acc : Int
  name : Int
  desc : Int
  has : Bool
  stack : Int
  locals : Int
  code : List UInt8
  traps : List TrapV
structure ClassV where
  minor : Int
  major : Int
  pool : List Ko
  acc : Int
  this : Int
  sup : Int
  ifs : List Int
  flds : List FieldV
  mths : List MethV
/-- A slice whose n rows can be read; its block is one of ok. -/
def SlAt (w : World) (ok : Nat → Prop) (size n : Nat) (cells : List Value) (v : Value) : Prop :=
  ∃ A cap, v = .slice A n cap ∧ n ≤ cap ∧ n ≤ 1048576 ∧ cells.length = n * size ∧ (0 < n → ∃ b off, A = some ⟨b, off, none⟩ ∧ b < w.heap.size ∧ ok b ∧ ∀ j u, cells[j]? = some u → w.cell? ⟨b, off + j, none⟩ = some u)
/-- What lies in the blocks of ok is kept. -/
structure Kept (ok : Nat → Prop) (w w' : World) : Prop where
  size : w.heap.size ≤ w'.heap.size
  cell : ∀ g, g < w.heap.size → ok g → ∀ o, w'.cell? ⟨g, o, none⟩ = w.cell? ⟨g, o, none⟩
theorem Kept.of_but {ok : Nat → Prop} {S : List Nat} {w w' : World} (h : But w.heap.size S w w') (hs : ∀ g, ok g → g ∉ S) : Kept ok w w' :=
  ⟨h.size, fun g hg ho o => h.cell (p := ⟨g, o, none⟩) hg (hs g ho)⟩
theorem Kept.of_below {ok : Nat → Prop} {w w' : World} (h : Below w.heap.size w w') : Kept ok w w' := ⟨h.size, fun g hg _ o => h.cell (p := ⟨g, o, none⟩) hg⟩
theorem Kept.trans {ok : Nat → Prop} {a b c : World} (h : Kept ok a b) (k : Kept ok b c) : Kept ok a c :=
  ⟨Nat.le_trans h.size k.size, fun g hg ho o => (k.cell g (Nat.lt_of_lt_of_le hg h.size) ho o).trans (h.cell g hg ho o)⟩
theorem Kept.mono {ok ok' : Nat → Prop} {w w' : World} (h : Kept ok w w') (hs : ∀ g, ok' g → ok g) : Kept ok' w w' := ⟨h.size, fun g hg ho o => h.cell g hg (hs g ho) o⟩
theorem SlAt.keep {w w' : World} {ok : Nat → Prop} {size n : Nat} {cells : List Value} {v : Value} (h : SlAt w ok size n cells v) (hk : Kept ok w w') : SlAt w' ok size n cells v := by
  obtain ⟨A, cap, rfl, h1, h2, h3, h4⟩ := h
  refine ⟨A, cap, rfl, h1, h2, h3, fun h0 => ?_⟩
  obtain ⟨b, off, e, hlt, ho, hc⟩ := h4 h0
  exact ⟨b, off, e, Nat.lt_of_lt_of_le hlt hk.size, ho, fun j u hu => (hk.cell b hlt ho _).trans (hc j u hu)⟩
theorem SlAt.mono {w : World} {ok ok' : Nat → Prop} {size n : Nat} {cells : List Value} {v : Value} (h : SlAt w ok size n cells v) (hs : ∀ g, g < w.heap.size → ok g → ok' g) : SlAt w ok' size n cells v := by
  obtain ⟨A, cap, rfl, h1, h2, h3, h4⟩ := h
  refine ⟨A, cap, rfl, h1, h2, h3, fun h0 => ?_⟩
  obtain ⟨b, off, e, hlt, ho, hc⟩ := h4 h0
  exact ⟨b, off, e, hlt, hs b hlt ho, hc⟩
theorem slAt_nil (w : World) (ok : Nat → Prop) (size : Nat) : SlAt w ok size 0 [] (.slice none 0 0) := ⟨none, 0, rfl, Nat.le_refl _, by omega, by simp, fun h => absurd h (by omega)⟩
/-- A row of the call's own, as a slice that reads. -/
theorem slAt_own {w : World} {base : Nat} {e : TypeId} {size n : Nat} {v : Value} {xs : List Value} (h : w.ownsRow base e size v n xs) (ok : Nat → Prop) (hs : 0 < size) (hn : n ≤ 1048576) (ho : ∀ g, v.ownBlock = some g → ok g) : SlAt w ok size n xs v := by
  rcases h.2 with ⟨rfl, h0⟩ | ⟨g, cap, cur, rfl, hb, hg, hnc, hcm, hcs, hx⟩
  · subst h0
    have hn0 : xs = [] := by
      have hl := h.1
      simp at hl
      exact hl
    subst hn0
    exact slAt_nil w ok size
  · exact ⟨_, cap, rfl, hnc, hn, h.1, fun h0 => ⟨g, 0, rfl, (h.lt g rfl).2, ho g rfl, fun j u hu => by
      have hl : j < n * size := by
        have := (List.getElem?_eq_some_iff.1 hu).1
        have := h.1
        omega
      rw [Nat.zero_add, h.cellAt j hl]
      exact hu⟩⟩
/-- A method in a row of methods: its cells, its code and its handlers. -/
structure MethAt (w : World) (ok : Nat → Prop) (m : MethV) (code traps : Value) : Prop where
  hcode : SlAt w ok 1 m.code.length (m.code.map bV) code
  htraps : SlAt w ok 4 m.traps.length (m.traps.flatMap TrapV.cells) traps
def MethV.cells (m : MethV) (code traps : Value) : List Value := [.int .i64 m.acc, .int .i64 m.name, .int .i64 m.desc, .bool m.has, .int .i64 m.stack, .int .i64 m.locals, code, traps]
def methCells (ms : List (MethV × Value × Value)) : List Value := ms.flatMap fun m => m.1.cells m.2.1 m.2.2
/-- A class file's cells. -/
def ClassV.cells (c : ClassV) (pool ifs flds mths : Value) : List Value := [.int .i64 c.minor, .int .i64 c.major, pool, .int .i64 c.acc, .int .i64 c.this, .int .i64 c.sup, ifs, flds, mths]
structure ClassAt (w : World) (ok : Nat → Prop) (c : ClassV) (pool ifs flds mths : Value) : Prop where
  hpool : SlAt w ok 5 c.pool.length (c.pool.flatMap Ko.cells) pool
  hifs : SlAt w ok 1 c.ifs.length (c.ifs.map (Value.int .i64)) ifs
  hflds : SlAt w ok 4 c.flds.length (c.flds.flatMap FieldV.cells) flds
  hmths : ∃ ms : List (MethV × Value × Value), ms.map (·.1) = c.mths ∧ SlAt w ok 8 c.mths.length (methCells ms) mths ∧ ∀ m ∈ ms, MethAt w ok m.1 m.2.1 m.2.2
theorem ClassAt.keep {w w' : World} {ok : Nat → Prop} {c : ClassV} {pool ifs flds mths : Value} (h : ClassAt w ok c pool ifs flds mths) (hk : Kept ok w w') : ClassAt w' ok c pool ifs flds mths where
  hpool := h.hpool.keep hk
  hifs := h.hifs.keep hk
  hflds := h.hflds.keep hk
  hmths := by
    obtain ⟨ms, h1, h2, h3⟩ := h.hmths
    exact ⟨ms, h1, h2.keep hk, fun m hm => ⟨(h3 m hm).hcode.keep hk, (h3 m hm).htraps.keep hk⟩⟩
theorem ClassAt.mono {w : World} {ok ok' : Nat → Prop} {c : ClassV} {pool ifs flds mths : Value} (h : ClassAt w ok c pool ifs flds mths) (hs : ∀ g, g < w.heap.size → ok g → ok' g) : ClassAt w ok' c pool ifs flds mths where
  hpool := h.hpool.mono hs
  hifs := h.hifs.mono hs
  hflds := h.hflds.mono hs
  hmths := by
    obtain ⟨ms, h1, h2, h3⟩ := h.hmths
    exact ⟨ms, h1, h2.mono hs, fun m hm => ⟨(h3 m hm).hcode.mono hs, (h3 m hm).htraps.mono hs⟩⟩
end Go.Proofs.YtdbniocnjhfhdaaGreatDoor
/-
  What reading a class file answers, in plain Lean: the class; or where something is wrong, and what.
-/
set_option linter.unusedSimpArgs false
set_option linter.unusedVariables false
namespace Go.Proofs.YtdbniocnjhfhdaaGreatDoor
open Go Go.RowKit Lib
/-- How far a reader has come. -/
structure Rs where
  pos : Nat
  most : Nat
  named : Nat
  pool : List Ko
/-- What a part of reading answers. -/
abbrev Rx (α : Type) := Except (Nat × Nat) (α × Rs)
def Rx.bind {α β : Type} (x : Rx α) (f : α → Rs → Rx β) : Rx β :=
  match x with
  | .error e => .error e
  | .ok (a, s) => f a s
theorem Rx.bind_error {α β : Type} (e : Nat × Nat) (f : α → Rs → Rx β) : Rx.bind (.error e) f = .error e := rfl
theorem Rx.bind_ok {α β : Type} (a : α) (s : Rs) (f : α → Rs → Rx β) : Rx.bind (.ok (a, s)) f = f a s := rfl
theorem Rx.bind_assoc {α β γ : Type} (x : Rx α) (f : α → Rs → Rx β) (g : β → Rs → Rx γ) : Rx.bind (Rx.bind x f) g = Rx.bind x fun a s => Rx.bind (f a s) g := by
  rcases x with e | ⟨a, s⟩ <;> rfl
def bytesP (l : List UInt8) (n : Nat) (st : Rs) : Rx (List UInt8) :=
  if l.length < st.pos + n then .error (st.pos, 10) else if st.most < st.pos + n then .error (st.named, 25) else .ok ((l.drop st.pos).take n, { st with pos := st.pos + n })
def beN (l : List UInt8) : Nat := l.foldl (fun v x => v * 256 + x.toNat) 0
def numP (l : List UInt8) (n : Nat) (st : Rs) : Rx Nat := Rx.bind (bytesP l n st) fun b s => .ok (beN b, s)
def countP (l : List UInt8) (m : Nat) (st : Rs) : Rx Nat := Rx.bind (numP l 2 st) fun n s => if m < n then .error (st.pos, 2) else .ok (n, s)
/-- A number of four bytes, as a signed one. -/
def int32P (n : Nat) : Int := if n < 2147483648 then n else (n : Int) - 4294967296
def koP (l : List UInt8) (st : Rs) : Rx Ko := Rx.bind (numP l 1 st) fun t s1 =>
  if t = 1 then Rx.bind (numP l 2 s1) fun n s2 => Rx.bind (bytesP l n s2) fun b s3 => .ok (⟨1, ⟨b.toArray⟩, 0, 0, 0⟩, s3)
  else if t = 3 then Rx.bind (numP l 4 s1) fun n s2 => .ok (⟨3, ⟨#[]⟩, int32P n, 0, 0⟩, s2)
  else if t = 7 then Rx.bind (numP l 2 s1) fun n s2 => .ok (⟨7, ⟨#[]⟩, 0, n, 0⟩, s2)
  else if t = 9 ∨ t = 10 ∨ t = 11 ∨ t = 12 then Rx.bind (numP l 2 s1) fun n s2 => Rx.bind (numP l 2 s2) fun m s3 => .ok (⟨t, ⟨#[]⟩, 0, n, m⟩, s3)
  else .error (st.pos, 13)
/-- Something again and again. -/
def repP {α : Type} (f : Rs → Rx α) : Nat → Rs → Rx (List α)
  | 0, st => .ok ([], st)
  | k + 1, st => Rx.bind (f st) fun a s => Rx.bind (repP f k s) fun r s' => .ok (a :: r, s')
/-- What was read before, ahead of what is read behind. -/
def Rx.pre {α : Type} (cs : List α) (x : Rx (List α)) : Rx (List α) := Rx.bind x fun r s => .ok (cs ++ r, s)
theorem Rx.pre_nil {α : Type} (x : Rx (List α)) : Rx.pre [] x = x := by rcases x with e | ⟨a, s⟩ <;> rfl
theorem repP_step {α : Type} {f : Rs → Rx α} {k : Nat} {st : Rs} {cs : List α} {a : α} {s : Rs} (h : f st = .ok (a, s)) : Rx.pre cs (repP f (k + 1) st) = Rx.pre (cs ++ [a]) (repP f k s) := by
  unfold Rx.pre
  rw [repP, h, Rx.bind_ok, Rx.bind_assoc]
  congr 1
  funext r s'
  rw [Rx.bind_ok]
  simp
theorem repP_stop {α : Type} {f : Rs → Rx α} {k : Nat} {st : Rs} {cs : List α} {e : Nat × Nat} (h : f st = .error e) : Rx.pre cs (repP f (k + 1) st) = .error e := by
  unfold Rx.pre
  rw [repP, h]
  rfl
theorem repP_end {α : Type} {f : Rs → Rx α} {st : Rs} {cs : List α} : Rx.pre cs (repP f 0 st) = .ok (cs, st) := by
  unfold Rx.pre
  rw [repP, Rx.bind_ok, List.append_nil]
/-- A name of an attribute: where it stands, its text. -/
def nameP (l : List UInt8) (st : Rs) : Rx (Nat × ByteArray) := Rx.bind (numP l 2 st) fun n s =>
  match (if n = 0 then none else st.pool[n - 1]?) with
  | none => .error (st.pos, 20)
  | some k => if k.tag = 1 then .ok ((st.pos, k.text), s) else .error (st.pos, 20)
def attrP {σ : Type} (l : List UInt8) (want : Option (List UInt8)) (act : σ → Nat → Nat → Rs → Rx σ) : Nat → Bool → σ → Rs → Rx σ
  | 0, _, x, st => .ok (x, st)
  | k + 1, seen, x, st => Rx.bind (nameP l st) fun a s1 =>
    if want = some a.2.toList ∧ seen = true then .error (a.1, 24)
    else Rx.bind (numP l 4 s1) fun long s2 =>
      if want = some a.2.toList then Rx.bind (act x a.1 long s2) fun x' s3 => attrP l want act k true x' s3
      else Rx.bind (bytesP l long s2) fun _ s3 => attrP l want act k seen x s3
def attrsP {σ : Type} (l : List UInt8) (want : Option (List UInt8)) (act : σ → Nat → Nat → Rs → Rx σ) (x : σ) (st : Rs) : Rx σ := Rx.bind (numP l 2 st) fun k s => attrP l want act k false x s
def skipP (l : List UInt8) (st : Rs) : Rx Unit := attrsP l none (fun x _ _ s => .ok (x, s)) () st
def constantValueL : List UInt8 := "ConstantValue".toUTF8.data.toList
def codeL : List UInt8 := "Code".toUTF8.data.toList
def fieldP (l : List UInt8) (st : Rs) : Rx FieldV := Rx.bind (numP l 2 st) fun a s1 => Rx.bind (numP l 2 s1) fun n s2 => Rx.bind (numP l 2 s2) fun d s3 =>
  attrsP l (some constantValueL) (fun f at' long s => if long ≠ 2 then .error (at', 26) else Rx.bind (numP l 2 s) fun v s' => .ok ({ f with value := v }, s')) ⟨a, n, d, 0⟩ s3
def trapP (l : List UInt8) (st : Rs) : Rx TrapV := Rx.bind (numP l 2 st) fun a s1 => Rx.bind (numP l 2 s1) fun b s2 => Rx.bind (numP l 2 s2) fun c s3 => Rx.bind (numP l 2 s3) fun d s4 => .ok (⟨a, b, c, d⟩, s4)
def codeP (l : List UInt8) (m : MethV) (at' long : Nat) (st : Rs) : Rx MethV :=
  Rx.bind (numP l 2 { st with most := st.pos + long, named := at' }) fun sk s1 => Rx.bind (numP l 2 s1) fun lo s2 => Rx.bind (numP l 4 s2) fun n s3 =>
    if 4096 < n then .error (s2.pos, 2)
    else Rx.bind (bytesP l n s3) fun b s4 => Rx.bind (countP l 64 s4) fun k s5 => Rx.bind (repP (trapP l) k s5) fun ts s6 => Rx.bind (skipP l s6) fun _ s7 =>
      if s7.pos ≠ s7.most then .error (at', 25) else .ok ({ m with has := true, stack := sk, locals := lo, code := b, traps := ts }, { s7 with most := 4611686018427387904 })
def methP (l : List UInt8) (st : Rs) : Rx MethV := Rx.bind (numP l 2 st) fun a s1 => Rx.bind (numP l 2 s1) fun n s2 => Rx.bind (numP l 2 s2) fun d s3 =>
  attrsP l (some codeL) (fun m at' long s => codeP l m at' long s) ⟨a, n, d, false, 0, 0, [], []⟩ s3
/-- What is read behind the methods. -/
def clsE (l : List UInt8) (mi ma : Nat) (pool : List Ko) (a t u : Nat) (ifs : List Nat) (flds : List FieldV) (mths : List MethV) (s : Rs) : Rx ClassV := Rx.bind (skipP l s) fun _ s' =>
  if s'.pos < l.length then .error (s'.pos, 14) else .ok (⟨mi, ma, pool, a, t, u, ifs.map Int.ofNat, flds, mths⟩, s')
/-- What is read behind the fields. -/
def clsD (l : List UInt8) (mi ma : Nat) (pool : List Ko) (a t u : Nat) (ifs : List Nat) (flds : List FieldV) (s : Rs) : Rx ClassV := Rx.bind (countP l 64 s) fun n s' => Rx.bind (repP (methP l) n s') (clsE l mi ma pool a t u ifs flds)
/-- What is read behind the interfaces. -/
def clsC (l : List UInt8) (mi ma : Nat) (pool : List Ko) (a t u : Nat) (ifs : List Nat) (s : Rs) : Rx ClassV := Rx.bind (countP l 64 s) fun n s' => Rx.bind (repP (fieldP l) n s') (clsD l mi ma pool a t u ifs)
/-- What is read behind the constants. -/
def clsB (l : List UInt8) (mi ma : Nat) (pool : List Ko) (s : Rs) : Rx ClassV := Rx.bind (numP l 2 { s with pool := pool }) fun a s5 => Rx.bind (numP l 2 s5) fun t s6 => Rx.bind (numP l 2 s6) fun u s7 =>
  Rx.bind (countP l 64 s7) fun n s' => Rx.bind (repP (numP l 2) n s') (clsC l mi ma pool a t u)
def classP (l : List UInt8) (st : Rs) : Rx ClassV := Rx.bind (numP l 4 st) fun m s0 => if m ≠ 3405691582 then .error (0, 11)
  else Rx.bind (numP l 2 s0) fun mi s1 => Rx.bind (numP l 2 s1) fun ma s2 => Rx.bind (countP l 1025 s2) fun n s3 => if n = 0 then .error (s2.pos, 20)
    else Rx.bind (repP (koP l) (n - 1) s3) (clsB l mi ma)
/-- What reading a class file answers. -/
def readP (l : List UInt8) : Except (Nat × Nat) ClassV :=
  if 65536 < l.length then .error (0, 2)
  else match classP l ⟨0, 4611686018427387904, 0, []⟩ with
    | .error e => .error e
    | .ok (c, _) => .ok c
end Go.Proofs.YtdbniocnjhfhdaaGreatDoor
/-
  Reading known bytes, in plain Lean.
-/
set_option linter.unusedSimpArgs false
set_option linter.unusedVariables false
namespace Go.Proofs.YtdbniocnjhfhdaaGreatDoor
open Go Go.RowKit Lib
/-- Behind p bytes of l stands r. -/
def AtL (l : List UInt8) (p : Nat) (r : List UInt8) : Prop := ∃ pre, l = pre ++ r ∧ pre.length = p
theorem AtL.next {l : List UInt8} {p : Nat} {b r : List UInt8} (h : AtL l p (b ++ r)) : AtL l (p + b.length) r := by
  obtain ⟨pre, e, hp⟩ := h
  exact ⟨pre ++ b, by rw [e, List.append_assoc], by rw [List.length_append, hp]⟩
theorem bytes_at {l : List UInt8} {p most nm : Nat} {pool : List Ko} {b r : List UInt8} {n : Nat} (h : AtL l p (b ++ r)) (hn : b.length = n) (hm : l.length ≤ most) :
    bytesP l n ⟨p, most, nm, pool⟩ = .ok (b, ⟨p + n, most, nm, pool⟩) := by
  obtain ⟨pre, e, hp⟩ := h
  have hl : l.length = p + (n + r.length) := by rw [e, List.length_append, List.length_append, hp, hn]
  unfold bytesP
  rw [if_neg (by show ¬ l.length < p + n; omega), if_neg (by show ¬ most < p + n; omega)]
  show Except.ok ((l.drop p).take n, _) = _
  rw [e, ← hp, ← hn, List.drop_left, List.take_left]
theorem num_at {l : List UInt8} {p most nm : Nat} {pool : List Ko} (b : List UInt8) {r : List UInt8} {n : Nat} (h : AtL l p (b ++ r)) (hn : b.length = n) (hm : l.length ≤ most) :
    numP l n ⟨p, most, nm, pool⟩ = .ok (beN b, ⟨p + n, most, nm, pool⟩) := by
  unfold numP
  rw [bytes_at h hn hm, Rx.bind_ok]
theorem ko_one {l : List UInt8} {p most nm : Nat} {pool : List Ko} {x y : UInt8} {b r : List UInt8} (h : AtL l p (1 :: x :: y :: (b ++ r))) (hn : b.length = beN [x, y]) (hm : l.length ≤ most) :
    koP l ⟨p, most, nm, pool⟩ = .ok (⟨1, ⟨b.toArray⟩, 0, 0, 0⟩, ⟨p + 3 + b.length, most, nm, pool⟩) := by
  have h1 : AtL l (p + 1) (x :: y :: (b ++ r)) := h.next (b := [1])
  have h2 : AtL l (p + 3) (b ++ r) := h1.next (b := [x, y])
  unfold koP
  rw [num_at [1] (n := 1) (r := x :: y :: (b ++ r)) h rfl hm, Rx.bind_ok, if_pos (by rfl), num_at [x, y] (n := 2) (r := b ++ r) h1 rfl hm, Rx.bind_ok, bytes_at h2 hn hm, Rx.bind_ok, ← hn]
theorem ko_seven {l : List UInt8} {p most nm : Nat} {pool : List Ko} {x y : UInt8} {r : List UInt8} (h : AtL l p (7 :: x :: y :: r)) (hm : l.length ≤ most) :
    koP l ⟨p, most, nm, pool⟩ = .ok (⟨7, ⟨#[]⟩, 0, beN [x, y], 0⟩, ⟨p + 3, most, nm, pool⟩) := by
  have h1 : AtL l (p + 1) (x :: y :: r) := h.next (b := [7])
  unfold koP
  rw [num_at [7] (n := 1) (r := x :: y :: r) h rfl hm, Rx.bind_ok, if_neg (by decide), if_neg (by decide), if_pos (by rfl), num_at [x, y] (n := 2) (r := r) h1 rfl hm, Rx.bind_ok]
end Go.Proofs.YtdbniocnjhfhdaaGreatDoor
