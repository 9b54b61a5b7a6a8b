/-
  turnstile/turnstilelaw8.AsmLabels answers true at every argument; the arguments read behind the call as before. Conditions: the listed package-level variable reads as the program's text lays it; the card ties it to the text.
-/
import Derived.Test.YtlcidkiplidamaaGreatDoorRows
import Derived.Test.YtlcidkiplidamaaGreatDoorTie
import Derived.Test.YtlcidkiplidamaaGreatDoorCards
import Derived.Test.YtlcidkiplidamaaGreatDoorCLaidA
import Derived.Test.YtlcidkiplidamaaGreatDoorCAsmLw
import Derived.WalkKit
import Derived.ProofKit
import Derived.OpenShut
import Derived.ChangeOld
import Derived.Below
import Derived.Lib.SmallJoins
import Derived.SevenTiedAt
set_option linter.unusedSimpArgs false
set_option linter.unusedVariables false
namespace Go.Proofs.YtlcidkiplidamaaGreatDoor.asmLabels
open Go.ChangeShapes Go.WideShapes Go.ChangeAt Go.RowKit Go.Joins

/-- The walk: the Go text returns true, and writes nothing that was there. -/
theorem walk (a0:Int) (a1:Int) (w:World) (mx:Int) (hmx:w.cell? ⟨Tryz.maxB,0,none⟩=some (.int .i64 mx)) (w0:(Lit.int .i64 a0).wf=true) (w1:(Lit.int .i64 a1).wf=true):
    Calls Tryz.prog 6 #[.int .i64 a0, .int .i64 a1] w fun e w'=>e= .returned (.bool true)∧Below w.heap.size w w':=by
  exact lawLabels_any a0 a1 mx w w0 w1 hmx

set_option maxRecDepth 100000 in
theorem lifted (os:Os) (started:os.Started) (H:Type) (enc:TypeId×Value→H):
    ReturnsInHanded {} Tryz.checked os 6 .any (fun w args=> (Rows.asmLabelsSpec.pre enc Tryz.prog Tryz.f6 [] false w args∧laidMetH Tryz.prog laidL w)∧sizedMet enc Tryz.prog Tryz.f6 (OpenSpec.ofChange Rows.asmLabelsSpec) false w args)
      (Rows.asmLabelsSpec.post enc Tryz.prog Tryz.f6 false true false false):=by
  refine handed_shaped (C:=Tryz.checked) (X:=fun w _=>laidMetH Tryz.prog laidL w) (fun _ _ _ hh h=>h.of_heap hh) l_own started (by kernel_rfl) Tryz.func6
    (ChangeSpec.witness_at (enc:=enc) (C:=Tryz.checked) (os:=os) (X:=fun w _=>laidMetH Tryz.prog laidL w) false (laidWorld os) #[.int .i64 0, .int .i64 0] 8 rfl (by kernel_rfl) (by kernel_rfl) (by kernel_rfl) (by kernel_rfl) (by kernel_rfl) (laidWorld_met os _)) ?_
  intro W base args ds gs before hval0 hW hsh
  obtain⟨mx,hmx⟩:=max_of_shape hsh
  have hval: ∀(j:Nat) t v,Tryz.f6.params[j]?=some t→args[j]?=some v→Value.okWide Tryz.prog W .any base t v:=hval0
  have hW':=hW
  obtain⟨p,q,hA0,hV,rfl,hfz,hnd⟩:=hW
  have hA:DataW.TrodAll enc Tryz.prog W 0 (fun _=>true) true Tryz.f6.params.toList args.toList ds p:=hA0
  rw [Tryz.params6] at hA hval
  obtain⟨v0,vs0,d0,ds0,p0,q0,hargs,rfl,rfl,h0,r0⟩:=trodAll_cons hA
  obtain⟨v1,vs1,d1,ds1,p1,q1,rfl,rfl,rfl,h1,r1⟩:=trodAll_cons r0
  obtain⟨rfl,rfl,rfl⟩:=trodAll_nil r1
  obtain rfl:args= #[v0,v1]:=by cases args;simp_all
  obtain⟨rfl,rfl⟩:=trodVars_none hV
  obtain⟨a0,rfl,rfl,rfl,w0⟩:=open_int Tryz.underlying3 (hval 0 3 v0 rfl rfl) h0
  obtain⟨a1,rfl,rfl,rfl,w1⟩:=open_int Tryz.underlying3 (hval 1 3 v1 rfl rfl) h1
  clear hA0 hval0
  try simp only [List.append_nil,List.nil_append] at hW'
  refine(walk a0 a1 W mx hmx w0 w1).mono fun e W' ⟨he,bel⟩=> ?_
  subst he
  exact⟨_,rfl,_,_,_, [],_, [],hW',trodAll_mk1 (shut_bool Tryz.underlying4 _),(trodAll_cons_mk (shut_int Tryz.underlying3 w0) (trodAll_cons_mk (shut_int Tryz.underlying3 w1) trodAll_mk0)),rfl,bel.frame _,fun h=>by cases h⟩

theorem over:Rows.asmLabelsRow.holds Tryz.pinned (OpenSpec.ofChange Rows.asmLabelsSpec):=
  OpenClaim.holds_of_wide 6 Tryz.f6 rfl rfl rfl rfl rfl rfl rfl ⟨rfl,rfl,rfl,rfl,rfl⟩ rfl rfl rfl rfl rfl (by kernel_rfl) Tryz.func6 (by kernel_rfl)
    (of_decide_eq_true (by kernel_rfl)) (by unfold Func.isWrapper;first| (rw [if_pos (by decide+kernel)];kernel_rfl) | (rw [if_neg (by decide+kernel)];exact⟨rfl,rfl⟩))
    (fun os started H enc _=>lifted os started H enc)

/-- The statement: the tied card. -/
theorem proved:Rows.AsmLabelsCardSaid:=
  Claim7.holds_tied_plain_at .later [] [.data, .pinned] true (true, "6f9ee0bd0c9299783c6fd3a1607f27dc4045537abddb620d34d1506aaf447853") true
    over (fun _ h=>by cases h) (by kernel_rfl) (fun _ h=>by cases h) asmLabels_row_tie rfl ⟨rfl,rfl⟩ (by kernel_rfl) rfl
    (fun f fn hf hfn=>by
      obtain rfl:f=6:=Option.some.inj ((show Tryz.prog.funcNamed "turnstile/turnstilelaw8.AsmLabels" =some 6 by kernel_rfl).symm.trans hf) |>.symm
      obtain rfl:fn=Tryz.f6:=(Option.some.inj (Tryz.func6.symm.trans hfn)).symm
      exact⟨by kernel_rfl,fun j t ht=>by
        rw [Tryz.params6] at ht
        have ht':=List.mem_of_getElem? (show [3,3][j]?=some t from by simpa using ht)
        simp only [List.mem_cons,List.not_mem_nil,or_false] at ht'
        rcases ht' with rfl|rfl
        · exact(show Tryz.prog.wantsStandIn 3=false by kernel_rfl)
        · exact(show Tryz.prog.wantsStandIn 3=false by kernel_rfl)⟩)
    (by kernel_rfl)
#print axioms proved
end Go.Proofs.YtlcidkiplidamaaGreatDoor.asmLabels
