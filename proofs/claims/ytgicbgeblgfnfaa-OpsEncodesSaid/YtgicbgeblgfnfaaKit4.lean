/-
  General small laws: what an append leaves of other blocks; an owned row over a world that keeps its block.
-/
import Derived.Test.YtgicbgeblgfnfaaKit3
set_option linter.unusedSimpArgs false
set_option linter.unusedVariables false
namespace Go.Proofs.Ytgicbgeblgfnfaa
open Go Go.RowKit Lib
theorem own_heap {w w' : World} {base : Nat} {e : TypeId} {size n : Nat} {v : Value} {xs : List Value} (h : w.ownsRow base e size v n xs) (hk : ∀ g, v.ownBlock = some g → w'.heap[g]? = w.heap[g]?) : w'.ownsRow base e size v n xs := by
  rcases h.2 with ⟨rfl, h0⟩ | ⟨g, cap, cur, rfl, hb, hg, r⟩
  · exact ⟨h.1, .inl ⟨rfl, h0⟩⟩
  · exact ⟨h.1, .inr ⟨g, cap, cur, rfl, hb, (hk g rfl).trans hg, r⟩⟩
/-- What an append onto block g leaves: every other old block. -/
theorem grown_facts {w w' : World} {v : Value} {g : Nat} (h : w.grownBy w' v.ownBlock) (hv : v.ownBlock = some g) :
    (∀ b o, b < w.heap.size → b ≠ g → w'.cell? ⟨b, o, none⟩ = w.cell? ⟨b, o, none⟩) ∧ (∀ b o, b < w.heap.size → b ≠ g → w'.frozen? ⟨b, o, none⟩ = w.frozen? ⟨b, o, none⟩) ∧
      (∀ b, b < w.heap.size → b ≠ g → w'.heap[b]? = w.heap[b]?) ∧ w.heap.size ≤ w'.heap.size := by
  have hb : ∀ b, b < w.heap.size → b ≠ g → w'.heap[b]? = w.heap[b]? := fun b hlt hne => h.block b hlt (by rw [hv]; intro e; injection e with e; exact hne e)
  exact ⟨fun b o hlt hne => World.cell?_of_block (hb b hlt hne), fun b o hlt hne => World.frozen?_of_block (hb b hlt hne), hb, h.size⟩
theorem cells_new_at (w : World) (l : List Value) (t : TypeId) (k : Nat) (hk : k = w.heap.size) : ∀ j u, l[j]? = some u → (w.alloc (.cells l.toArray t)).cell? ((⟨k, 0, none⟩ : Addr).add j) = some u := by
  subst hk
  exact cells_new w l t
/-- A mark at which the walk stands still. -/
def Stop (p : Prop) : Prop := p
theorem stop_here {p : Prop} (h : Stop p) : p := h
theorem go_on {p : Prop} (h : p) : Stop p := h
theorem own_set {w : World} {base : Nat} {e : TypeId} {size n g cap : Nat} {xs : List Value} (h : w.ownsRow base e size (.slice (some ⟨g, 0, none⟩) n cap) n xs) {p : Addr} (hp : g ≠ p.block) (u : Value) :
    (w.setCell p u).ownsRow base e size (.slice (some ⟨g, 0, none⟩) n cap) n xs :=
  own_heap h fun k hk => by
    simp only [Value.ownBlock, Option.some.injEq] at hk
    subst hk
    exact Below.heap_setCell w p u _ hp
end Go.Proofs.Ytgicbgeblgfnfaa
