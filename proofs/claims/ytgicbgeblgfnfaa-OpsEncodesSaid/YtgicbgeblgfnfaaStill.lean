/-
  General small laws: a region that draws its order, whose last few operations wait for all others.
-/
import Derived.Test.YtgicbgeblgfnfaaKit4
import Derived.StillTailTactics
import Derived.Deep.QuietTactic
import Derived.BigQuiet
set_option linter.unusedSimpArgs false
set_option linter.unusedVariables false
namespace Go.Proofs.Ytgicbgeblgfnfaa
open Go Go.RowKit Lib
theorem wp_region_tail {P : Program} {id : Nat} {Q : Exit → Act → World → Prop} {a : Act} {w : World} {l : List Oper} (n : Nat) (hm : P.follows .mixedOrders = true) (hB : Region.lexTailB .any l.toArray n = true)
    (h : wpStill P l.toArray (w.drewN 1) (fun a' => wpList P l.toArray Q (l.drop n) a' (w.drewN 1)) (l.take n) a) : (Code.region id l.toArray true).wp P Q a w := wp_region_still_tail n hm hB h
theorem still_of_quiet {P : Program} {ops : Array Oper} {w : World} {Q : Act → Prop} : ∀ (l : List Oper) (a : Act), wpQuiet P ops (fun x => x = w) Q l a → wpStill P ops w Q l a
  | [], _, h => h
  | o :: rest, a, h => by
    unfold wpQuiet at h
    unfold wpStill
    split at h
    · rename_i hw
      rw [if_pos hw]
      obtain ⟨v, h1, h2⟩ := h
      have h3 := h1 w rfl
      unfold Oper.quietAt at h3
      unfold Oper.still
      generalize (execOp a.eval o).run P w = r at h3 ⊢
      unfold Oper.quietUpon at h3
      unfold Oper.stillUpon
      split at h3
      · obtain ⟨rfl, rfl⟩ := h3
        exact ⟨rfl, still_of_quiet rest _ h2⟩
      · obtain ⟨rfl, rfl⟩ := h3
        exact ⟨rfl, still_of_quiet rest _ h2⟩
      · exact ⟨h3.1, v, h3.2, still_of_quiet rest _ h2⟩
      · exact h3.elim
    · rename_i hw
      rw [if_neg hw]
      exact still_of_quiet rest _ h
/-- A region that draws its order, its head only reading, its tail in one order: the head walked as go_quiet walks, in the world behind the one draw. -/
theorem wp_region_head {P : Program} {id : Nat} {Q : Exit → Act → World → Prop} {a : Act} {w : World} {l : List Oper} (n : Nat) (hm : P.follows .mixedOrders = true) (hB : Region.lexTailB .any l.toArray n = true)
    (h : wpQuiet P l.toArray (fun x => x = w.drewN 1) (fun a' => wpList P l.toArray Q (l.drop n) a' (w.drewN 1)) (l.take n) a) : (Code.region id l.toArray true).wp P Q a w := wp_region_tail n hm hB (still_of_quiet _ _ h)
section Floating
variable {P : Program} {Q : Exit → Act → World → Prop}
def edgesOf (S : List Nat) : Array Edge := (S.map fun i => ({ on := i, ground := .data } : Edge)).toArray
def plus (S : List Nat) (o : Oper) : Oper := { o with after := o.after ++ edgesOf S }
/-- The same operations, number n waiting for those of S as well. -/
def addE (l : List Oper) (n : Nat) (S : List Nat) : List Oper := l.modify n (plus S)
theorem addE_get (l : List Oper) (n : Nat) (S : List Nat) (j : Nat) : (addE l n S).toArray[j]? = (l.toArray[j]?).map (fun o => if n = j then plus S o else o) := by
  unfold addE
  simp only [List.getElem?_toArray, List.getElem?_modify]
  cases l[j]? <;> rfl
theorem yielded_addE (l : List Oper) (n : Nat) (S : List Nat) (t : Array Value) : yielded (addE l n S).toArray t = yielded l.toArray t := by
  funext j
  unfold yielded
  rw [addE_get]
  cases l.toArray[j]? with
  | none => rfl
  | some o => by_cases h : n = j <;> simp [h, plus]
theorem plus_wp (S : List Nat) (o : Oper) (a : Act) (w : World) (K : Act → World → Prop) : (plus S o).wp P a w K Q = o.wp P a w K Q := by cases o; rfl
theorem plus_asks (S : List Nat) (o : Oper) (a : Act) (w : World) : (plus S o).asks P a w = o.asks P a w := by cases o; rfl
theorem plus_still (S : List Nat) (o : Oper) (a : Act) (w : World) (K : Act → Prop) : (plus S o).still P a w K = o.still P a w K := by cases o; rfl
theorem plus_wanted (S : List Nat) (o : Oper) (y : Nat → Option Bool) : Region.wanted (plus S o) y = Region.wanted o y := by cases o; rfl
theorem ready_addE {l : List Oper} {n : Nat} {S : List Nat} {listed : Array Bool} (h : ∀ i ∈ S, listed.getD i false = true) :
    Region.ready .any (addE l n S).toArray listed = Region.ready .any l.toArray listed := by
  unfold Region.ready
  have hsz : (addE l n S).toArray.size = l.toArray.size := by simp [addE]
  rw [hsz]
  apply List.filter_congr
  intro i _
  rw [addE_get]
  congr 1
  cases l.toArray[i]? with
  | none => rfl
  | some o =>
    by_cases hn : n = i
    · have e : (edgesOf S).all (fun e => !Region.binds .any e || listed.getD e.on false) = true := by
        rw [Array.all_eq_true_iff_forall_mem]
        intro e he
        simp only [edgesOf, List.mem_toArray, List.mem_map] at he
        obtain ⟨i, hi, rfl⟩ := he
        rw [h i hi]
        simp
      simp only [Option.map_some, Option.getD_some, hn, if_true, plus, Array.all_append, e, Bool.and_true]
    · simp [hn]
theorem wpOp_addE {l : List Oper} {n : Nat} {S : List Nat} {i : Nat} {K : Act → World → Prop} {a : Act} {w : World} (h : wpOp P (addE l n S).toArray Q i K a w) : wpOp P l.toArray Q i K a w := by
  unfold wpOp at h ⊢
  rw [addE_get, yielded_addE] at h
  cases ho : l.toArray[i]? with
  | none => rw [ho] at h; exact h
  | some o =>
    rw [ho] at h
    by_cases hn : n = i
    · simp only [Option.map_some, hn, if_true, plus_wp, plus_asks, plus_wanted] at h
      exact h
    · simp only [Option.map_some, hn, if_false] at h
      exact h
theorem getD_mono {listed : Array Bool} {S : List Nat} (h : ∀ i ∈ S, listed.getD i false = true) (j : Nat) : ∀ i ∈ S, (listed.setIfInBounds j true).getD i false = true := fun i hi => getD_set_true (h i hi)
theorem any_addE {l : List Oper} {n : Nat} {S : List Nat} : ∀ (f : Nat) (listed : Array Bool) (a : Act) (w : World), (∀ i ∈ S, listed.getD i false = true) →
    wpAny P .any (addE l n S).toArray Q f listed a w → wpAny P .any l.toArray Q f listed a w
  | 0, listed, a, w, hS, h => ⟨by rw [← ready_addE hS]; exact h.1, h.2⟩
  | f + 1, listed, a, w, hS, h => by
    refine ⟨fun h0 => h.1 (by rw [ready_addE hS]; exact h0), fun i hi => ?_⟩
    have h1 := h.2 i (by rw [ready_addE hS]; exact hi)
    exact wpOp_mono (fun a' w' h2 => any_addE f _ a' w' (getD_mono hS i) h2) (wpOp_addE h1)
theorem list_addE {ops : Array Oper} {l : List Oper} {n : Nat} {S : List Nat} (hops : ops = (addE l n S).toArray) : ∀ (r : List Oper) (a : Act) (w : World), wpList P l.toArray Q r a w → wpList P ops Q r a w
  | [], _, _, h => h
  | o :: r, a, w, h => by
    unfold wpList at h ⊢
    rw [hops, yielded_addE]
    split
    · rename_i hw
      rw [if_pos hw] at h
      exact h.imp (Oper.wp_mono fun a' w' h2 => by rw [← hops]; exact list_addE hops r a' w' h2) id
    · rename_i hw
      rw [if_neg hw] at h
      rw [← hops]
      exact list_addE hops r _ w h
theorem list_head {ops : Array Oper} {S : List Nat} {o : Oper} {r : List Oper} {a : Act} {w : World} (h : wpList P ops Q (o :: r) a w) : wpList P ops Q (plus S o :: r) a w := by
  unfold wpList at h ⊢
  rw [plus_wanted, plus_wp, plus_asks]
  exact h
theorem still_addE {w : World} {Q' : Act → Prop} {ops : Array Oper} {l : List Oper} {n : Nat} {S : List Nat} (hops : ops = (addE l n S).toArray) : ∀ (r : List Oper) (a : Act), wpStill P l.toArray w Q' r a → wpStill P ops w Q' r a
  | [], _, h => h
  | o :: r, a, h => by
    unfold wpStill at h ⊢
    rw [hops, yielded_addE]
    split
    · rename_i hw
      rw [if_pos hw] at h
      exact Oper.still_mono (fun a' h2 => by rw [← hops]; exact still_addE hops r a' h2) h
    · rename_i hw
      rw [if_neg hw] at h
      rw [← hops]
      exact still_addE hops r _ h
theorem still_goal {w : World} {Q1 Q2 : Act → Prop} {ops : Array Oper} (hQ : ∀ a, Q1 a → Q2 a) : ∀ (r : List Oper) (a : Act), wpStill P ops w Q1 r a → wpStill P ops w Q2 r a
  | [], a, h => hQ a h
  | o :: r, a, h => by
    unfold wpStill at h ⊢
    split
    · rename_i hw
      rw [if_pos hw] at h
      exact Oper.still_mono (fun a' h2 => still_goal hQ r a' h2) h
    · rename_i hw
      rw [if_neg hw] at h
      exact still_goal hQ r _ h
def movesFrom (o : Oper) : Option Operand := match o.op with | .move x => if o.guard.isNone then some x else none | _ => none
theorem movesFrom_op {o : Oper} {x : Operand} (h : movesFrom o = some x) : o.op = .move x ∧ o.guard = none := by
  unfold movesFrom at h
  split at h
  · rename_i y hy
    split at h
    · rename_i hg
      injection h with h
      subst h
      exact ⟨hy, by simpa using hg⟩
    · cases h
  · cases h
/-- The moves of S can be taken first, one behind the other. -/
def floatsB (l : List Oper) (n : Nat) : Array Bool → List Nat → Bool
  | _, [] => true
  | listed, i :: S => (match l.toArray[i]? with | some o => (movesFrom o).isSome | none => false) && decide (i < n) && Region.free .any l.toArray listed i && (Region.ready .any l.toArray listed).contains i && floatsB l n (listed.setIfInBounds i true) S
theorem float_moves {l : List Oper} {n : Nat} {T : List Nat} {w : World} {L : Array Bool → Act → Prop} {g : Nat} (hsel : Region.noSelect l.toArray = true) (hQ : ∀ c a w d v, Q (.panic c) (a.put d v) w → Q (.panic c) a w)
    (hL : ∀ listed a, L listed a → wpAny P .any (addE l n T).toArray Q g listed a w) :
    ∀ (S : List Nat) (f : Nat) (listed : Array Bool) (a : Act), f + 0 = f → (∀ i ∈ T, listed.getD i false = true ∨ i ∈ S) → floatsB l n listed S = true → S.length ≤ f →
      wpAnyL P .any (addE l n T).toArray w n L f listed a → wpAny P .any l.toArray Q (f + g) listed a w
  | [], f, listed, a, _, hT, _, _, h => any_addE _ _ _ _ (fun i hi => (hT i hi).resolve_right (by simp)) (wpAny_of_head hL f listed a h)
  | i :: S, 0, _, _, _, _, _, hf, _ => by simp at hf
  | i :: S, f + 1, listed, a, _, hT, hB, hf, h => by
    simp only [floatsB, Bool.and_eq_true, decide_eq_true_eq] at hB
    obtain ⟨⟨⟨⟨hm, hin⟩, hfree⟩, hr⟩, hB'⟩ := hB
    cases ho : l.toArray[i]? with
    | none => rw [ho] at hm; cases hm
    | some o =>
      rw [ho] at hm
      obtain ⟨x, hx⟩ := Option.isSome_iff_exists.1 hm
      obtain ⟨hop, hg⟩ := movesFrom_op hx
      have ho' : (addE l n T).toArray[i]? = some o := by
        rw [addE_get, ho]
        have : ¬ n = i := by omega
        simp [this]
      have hw : ∀ y, Region.wanted o y = true := fun y => by simp [Region.wanted, hg]
      have hr' : i ∈ Region.ready .any (addE l n T).toArray listed := by
        have := mem_ready.1 (show i ∈ Region.ready .any l.toArray listed by simpa using hr)
        obtain ⟨h0, o2, ho2, hall⟩ := this
        rw [ho] at ho2
        injection ho2 with ho2
        subst ho2
        exact mem_ready.2 ⟨h0, o, ho', hall⟩
      have h1 := (h.2 i hr').2
      unfold stOp at h1
      simp only [ho', hw, if_true] at h1
      unfold Oper.still at h1
      rw [BigFrame.run_move x hop w] at h1
      have h2 := h1.2
      rw [show f + 1 + g = (f + g) + 1 by omega]
      refine wpAny_take ho hsel hfree hr (fun c a w => hQ c a w _ _) (.inl ⟨hw _, fun w => BigFrame.run_move x hop w⟩) ?_
      refine float_moves hsel hQ hL S f _ _ rfl (fun j hj => ?_) hB' (by simp at hf; omega) h2
      have hlt : i < listed.size := by
        have h0 := (mem_ready.1 hr').1
        rcases Nat.lt_or_ge i listed.size with h' | h'
        · exact h'
        · simp [Array.getElem?_eq_none h'] at h0
      rcases hT j hj with h3 | h3
      · exact .inl (getD_set_true h3)
      · rcases List.mem_cons.1 h3 with rfl | h3
        · left
          simp [hlt]
        · exact .inr h3
def floatTailB (l : List Oper) (n : Nat) (S : List Nat) : Bool :=
  Region.lexTailB .any (addE l n S).toArray n && floatsB l n (Array.replicate l.toArray.size false) S && decide (S.length ≤ n) && Region.noSelect l.toArray
/-- A region that draws its order: the moves of S wait for nothing and may come late; all other operations of the head only read, and the tail stands in one order behind them. -/
theorem wp_region_float {id : Nat} {a : Act} {w : World} {l : List Oper} (n : Nat) (S : List Nat) (hm : P.follows .mixedOrders = true) (hB : floatTailB l n S = true) (hQ : ∀ c a w d v, Q (.panic c) (a.put d v) w → Q (.panic c) a w)
    (h : wpQuiet P l.toArray (fun x => x = w.drewN 1) (fun a' => wpList P l.toArray Q (l.drop n) a' (w.drewN 1)) (l.take n) a) : (Code.region id l.toArray true).wp P Q a w := by
  simp only [floatTailB, Region.lexTailB, Bool.and_eq_true, decide_eq_true_eq] at hB
  obtain ⟨⟨⟨⟨⟨⟨⟨hsel', hn⟩, hs⟩, hc⟩, hlex⟩, hfl⟩, hSn⟩, hsel⟩ := hB
  obtain ⟨ops, hops⟩ : ∃ ops, ops = (addE l n S).toArray := ⟨_, rfl⟩
  have hsz : ops.size = l.toArray.size := by rw [hops]; simp [addE]
  have hn' : n < l.length := by rw [← hops, hsz] at hn; simpa using hn
  have htl : (l.take n).length = n := by simp; omega
  have hget : ∀ j, n ≠ j → ops[j]? = l[j]? := fun j hj => by
    rw [hops, addE_get, List.getElem?_toArray]
    cases l[j]? <;> simp [hj]
  have inv0 : HeadInv .any ops n (Array.replicate l.toArray.size false) :=
    ⟨by simp [hsz], fun j oj _ hl => (by rw [getD_replicate_false] at hl; cases hl), fun t _ ht => getD_in (by rw [Array.size_replicate, ← hsz]; exact ht) (getD_replicate_false _ _)⟩
  rw [← hops] at hs hc hlex hsel' hn
  rw [hsz] at hlex
  have h1 := still_addE (n := n) (S := S) hops _ _ (still_of_quiet _ _ h)
  have H := wpAnyL_lex (md := .any) (g := l.toArray.size - n) hsel' hs hc hn (l.take n) 0 _ a (fun j hj => by
    have hj' : j < n := by rw [htl] at hj; exact hj
    rw [Nat.zero_add, hget j (by omega), List.getElem?_take_of_lt hj']) (by simpa using htl) inv0 (by rw [htl]; exact hlex) h1
  refine wp_region_any hm ?_
  obtain ⟨o, ho⟩ : ∃ o, l[n]? = some o := ⟨_, List.getElem?_eq_getElem hn'⟩
  have hdrop : l.drop n = o :: l.drop (n + 1) := by
    rw [List.drop_eq_getElem_cons hn']
    congr 1
    rw [List.getElem?_eq_getElem hn'] at ho
    injection ho
  have := float_moves (P := P) (Q := Q) (l := l) (n := n) (T := S) (w := w.drewN 1) (L := fun listed' a' => Region.seqB .any ops (l.toArray.size - n) n listed' = true ∧ wpList P l.toArray Q (l.drop n) a' (w.drewN 1)) (g := l.toArray.size - n) hsel hQ (fun listed a' hL => by
    have hd := list_head (S := S) (list_addE (n := n) (S := S) hops _ _ _ (hdrop ▸ hL.2))
    have := wpAny_of_seq (md := .any) (Q' := Q) (plus S o :: l.drop (n + 1)) n listed a' (w.drewN 1) (fun j => by
      rcases j with _ | j
      · rw [hops, addE_get, List.getElem?_toArray]
        simp only [Nat.add_zero]
        rw [ho]
        simp
      · rw [hget _ (by omega)]
        simp [List.getElem?_drop, Nat.add_comm, Nat.add_left_comm, Nat.add_assoc]) (by
          rw [List.length_cons, List.length_drop, show l.length - (n + 1) + 1 = l.toArray.size - n by simp; omega]
          exact hL.1) hd
    rw [List.length_cons, List.length_drop, show l.length - (n + 1) + 1 = l.toArray.size - n by simp; omega] at this
    rw [← hops]
    exact this) S n _ a rfl (fun i hi => .inr hi) hfl hSn (by rw [htl] at H; exact hops ▸ H)
  rw [show n + (l.toArray.size - n) = l.toArray.size by simp; omega] at this
  exact this
end Floating
end Go.Proofs.Ytgicbgeblgfnfaa
