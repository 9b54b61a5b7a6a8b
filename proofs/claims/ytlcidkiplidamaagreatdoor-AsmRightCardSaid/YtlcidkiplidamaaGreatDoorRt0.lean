/-
  AsmRight: a class that fits has numbers that the checker takes; an error is no zero; what is written reads as its bytes.
-/
import Derived.Test.YtlcidkiplidamaaGreatDoorAsmFt2
import Derived.Test.YtlcidkiplidamaaGreatDoorR13
set_option linter.unusedSimpArgs false
set_option linter.unusedVariables false
set_option maxRecDepth 100000
set_option maxHeartbeats 4000000
namespace Go.Proofs.YtlcidkiplidamaaGreatDoor
open Go Go.RowKit Lib Go.Maps
theorem In2.fine {n:Int} (h:In2 n):Fine n:=⟨by have:=h.1;omega,by have:=h.2;omega⟩
theorem in2_0:In2 0:=⟨by decide,by decide⟩
theorem KoFit.fine {k:Ko} (h:KoFit k):KoFine k:=by
  unfold KoFine TagOk
  rcases h with⟨h1,h2,h3,h4,h5⟩ | ⟨h1,h2,h3,h4,h5,h6⟩ | ⟨h1,h2,h3,h4,h5⟩ | ⟨h1,h2,h3,h4,h5⟩
  · rw [h4,h5]
    exact⟨in2_0.fine,in2_0.fine,by omega, .inl h1⟩
  · rw [h5,h6,h2]
    exact⟨in2_0.fine,in2_0.fine,Nat.zero_le _, .inr (.inl h1)⟩
  · rw [h5,h2]
    exact⟨h4.fine,in2_0.fine,Nat.zero_le _, .inr (.inr (.inl h1))⟩
  · rw [h2]
    exact⟨h4.fine,h5.fine,Nat.zero_le _,by rcases h1 with h|h|h|h<;>simp [h]⟩
theorem ClsFit.fine {c:ClassV} (h:ClsFit c):ClassFine c where
  pool k hk:=(h.pool k hk).fine
  this:=h.this.fine
  sup:=h.sup.fine
  ifs n hn:=(h.ifs n hn).fine
  flds x hx:=by
    have:=h.flds x hx
    exact⟨this.2.1.fine,this.2.2.1.fine,this.2.2.2.1.fine⟩
  mths x hx:=by
    have:=h.mths x hx
    exact⟨this.name.fine,this.desc.fine,this.stack.fine,this.locals.fine,fun t ht=>by
      have:=this.traps t ht
      exact⟨this.1.fine,this.2.1.fine,this.2.2.1.fine,this.2.2.2.fine⟩⟩
theorem asm_nz {ck:ClassV→Int} {text:ByteArray} {n:Nat} {e:Int} (h:aAsm ck text= .error (n,e)):e≠0:=by
  unfold aAsm at h
  split at h
  · cases h
    decide
  · split at h
    · cases h
      decide
    · next σ _=>
      split at h
      · cases h
        decide
      · split at h
        · cases h
          decide
        · by_cases hk:ck σ.object.c=0
          · simp [hk] at h
          · simp [hk] at h
            rw [←h.2]
            exact hk
theorem own_at {w:World} {base:Nat} {e:TypeId} {v:Value} {n:Nat} {l:List UInt8} (h:w.ownsRow base e 1 v n (l.map bV)): ∃A cap,v= .slice A n cap∧RdB w A n cap l∧ ∀a,A=some a→a.block<w.heap.size:=by
  rcases id h.2 with⟨rfl,h0⟩ | ⟨g,cap,cur,rfl,hb,hg,hnc,hcm,hcs,hx⟩
  · subst h0
    have hl:l= []:=by
      have hl:=h.1
      simp at hl
      exact hl
    subst hl
    exact⟨_,_,rfl,⟨rfl,Nat.le_refl _,by omega,fun h0=>absurd h0 (Nat.lt_irrefl _)⟩,fun a e=>by cases e⟩
  · refine⟨_,_,rfl,rdB_own h,fun a e=> ?_⟩
    cases e
    exact(Array.getElem?_eq_some_iff.1 hg).1
end Go.Proofs.YtlcidkiplidamaaGreatDoor
