/-
  turnstile/turnstilelaw19.WorldKeeps answers true at every argument; the arguments read behind the call as before. Conditions: the listed package-level variable reads as the program's text lays it; the card ties it to the text.
-/
import Derived.Test.YtpbnjakeielipaaGreatDoorRows
import Derived.Test.YtpbnjakeielipaaGreatDoorTie
import Derived.Test.YtpbnjakeielipaaGreatDoorCards
import Derived.Test.YtpbnjakeielipaaGreatDoorB35
import Derived.WalkKit
import Derived.ProofKit
import Derived.OpenShut
import Derived.ChangeOld
import Derived.Below
import Derived.Lib.SmallJoins
import Derived.SevenTiedAt
set_option linter.unusedSimpArgs false
set_option linter.unusedVariables false
namespace Go.Proofs.YtpbnjakeielipaaGreatDoor.worldKeeps
open Go.ChangeShapes Go.WideShapes Go.ChangeAt Go.RowKit Go.Joins
theorem laidOut:laidOutB Tryz.prog=true:=by kernel_rfl

/-- The walk: the Go text returns true, and writes nothing that was there. -/
theorem walk (a0:Option Addr) (len0 cap0:Nat) (l0:List OpD) (w:World) (hgl:GlW w) (w0:RdOp w a0 len0 cap0 l0) (hs0: ∀d∈l0,d.name.size≤140737488351232∧d.bytes.length≤140737488351232):
    Calls Tryz.prog 3 #[.slice a0 len0 cap0] w fun e w'=>e= .returned (.bool true)∧Below w.heap.size w w':=by
  exact keeps_any a0 len0 cap0 l0 w w0 hs0 hgl

set_option maxRecDepth 100000 in
theorem lifted (os:Os) (started:os.Started) (H:Type) (enc:TypeId×Value→H):
    ReturnsInHanded {} Tryz.checked os 3 .any (fun w args=> (Rows.worldKeepsSpec.pre enc Tryz.prog Tryz.f3 [] false w args∧laidMetH Tryz.prog [("errors.errorType",Rows.laid_errors_errorType)] w)∧sizedMet enc Tryz.prog Tryz.f3 (OpenSpec.ofChange Rows.worldKeepsSpec) false w args)
      (Rows.worldKeepsSpec.post enc Tryz.prog Tryz.f3 false true false false):=by
  refine returnsInHanded_of_change_and (C:=Tryz.checked) (X:=fun w _=>laidMetH Tryz.prog [("errors.errorType",Rows.laid_errors_errorType)] w) (fun _ _ _ hh h=>h.of_heap hh) l_own started (by kernel_rfl) Tryz.func3
    (ChangeSpec.witness_at (enc:=enc) (C:=Tryz.checked) (os:=os) (X:=fun w _=>laidMetH Tryz.prog [("errors.errorType",Rows.laid_errors_errorType)] w) false (laidWorld os) #[.slice none 0 0] 8 rfl (by kernel_rfl) (by kernel_rfl) (by kernel_rfl) (by kernel_rfl) (by kernel_rfl) (laidWorld_met os _)) ?_
  intro W base args ds gs before hval0 hW _ hwt hL _
  have hgl:=gl_of_laid hL
  have hval: ∀(j:Nat) t v,Tryz.f3.params[j]?=some t→args[j]?=some v→Value.okWide Tryz.prog W .any base t v:=hval0
  have hW':=hW
  obtain⟨p,q,hA0,hV,rfl,hfz,hnd⟩:=hW
  have hA:DataW.TrodAll enc Tryz.prog W 0 (fun _=>true) true Tryz.f3.params.toList args.toList ds p:=hA0
  rw [Tryz.params3] at hA hval hwt
  obtain⟨v0,vs0,d0,ds0,p0,q0,hargs,rfl,rfl,h0,r0⟩:=trodAll_cons hA
  obtain⟨rfl,rfl,rfl⟩:=trodAll_nil r0
  obtain rfl:args= #[v0]:=by cases args;simp_all
  obtain⟨rfl,rfl⟩:=trodVars_none hV
  obtain⟨a0,len0,cap0,rfl⟩:=okWide_slice Tryz.underlying22 (hval 0 22 v0 rfl rfl)
  have k0:=h0
  have lt0: ∀x∈p0,x.block<W.heap.size:=by obtain⟨m,hm⟩:=k0;exact DataW.trod_lt m _ _ _ hm
  obtain⟨l0,w0,ws0⟩:=rdOp_row h0
  have hs0:=ws0 (by
    simp only [Array.toList,List.cons_append,List.nil_append,List.append_nil,DataW.weightsEach,List.all_append,Bool.and_eq_true] at hwt
    exact hwt.1)
  clear hA0 hval0
  try simp only [List.append_nil,List.nil_append] at hW'
  refine(walk a0 len0 cap0 l0 W hgl w0 hs0).mono fun e W' ⟨he,bel⟩=> ?_
  subst he
  exact⟨_,rfl,_,_,_, [],_, [],hW',trodAll_mk1 (shut_bool Tryz.underlying4 _),(trodAll_cons_mk (Below.trod laidOut (by kernel_rfl) (of_decide_eq_true (by kernel_rfl)) k0 bel lt0) trodAll_mk0),rfl,bel.frame _,fun h=>by cases h⟩

theorem over:Rows.worldKeepsRow.holds Tryz.pinned (OpenSpec.ofChange Rows.worldKeepsSpec):=
  OpenClaim.holds_of_wide 3 Tryz.f3 rfl rfl rfl rfl rfl rfl rfl ⟨rfl,rfl,rfl,rfl,rfl⟩ rfl rfl rfl rfl rfl (by kernel_rfl) Tryz.func3 (by kernel_rfl)
    (of_decide_eq_true (by kernel_rfl)) (by unfold Func.isWrapper;first| (rw [if_pos (by decide+kernel)];kernel_rfl) | (rw [if_neg (by decide+kernel)];exact⟨rfl,rfl⟩))
    (fun os started H enc _=>lifted os started H enc)

/-- The statement: the tied card. -/
theorem proved:Rows.WorldKeepsCardSaid:=
  Claim7.holds_tied_plain_at .later [] [.handle] true (true, "61216477508533daabe84c0d4b9f4c1a451523fe5b94c1c309bd514a7f78e9e8") true
    over (fun _ h=>by cases h) (by kernel_rfl) (fun _ h=>by cases h) worldKeeps_row_tie rfl ⟨rfl,rfl⟩ (by kernel_rfl) rfl
    (fun f fn hf hfn=>by
      obtain rfl:f=3:=Option.some.inj ((show Tryz.prog.funcNamed "turnstile/turnstilelaw19.WorldKeeps" =some 3 by kernel_rfl).symm.trans hf) |>.symm
      obtain rfl:fn=Tryz.f3:=(Option.some.inj (Tryz.func3.symm.trans hfn)).symm
      exact⟨by kernel_rfl,fun j t ht=>by
        rw [Tryz.params3] at ht
        have ht':=List.mem_of_getElem? (show [22][j]?=some t from by simpa using ht)
        simp only [List.mem_cons,List.not_mem_nil,or_false] at ht'
        subst ht'
        · exact(show Tryz.prog.wantsStandIn 22=false by kernel_rfl)⟩)
    (by kernel_rfl)
#print axioms proved
end Go.Proofs.YtpbnjakeielipaaGreatDoor.worldKeeps
