/-
  turnstile/turnstilelaw8.AsmRight answers true at every argument; the arguments read behind the call as before. Conditions: the listed package-level variable reads as the program's text lays it; the card ties it to the text.
-/
import Derived.Test.YtlcidkiplidamaaGreatDoorRows
import Derived.Test.YtlcidkiplidamaaGreatDoorTie
import Derived.Test.YtlcidkiplidamaaGreatDoorCards
import Derived.Test.YtlcidkiplidamaaGreatDoorLaidA
import Derived.Test.YtlcidkiplidamaaGreatDoorAsmRt
import Derived.WalkKit
import Derived.ProofKit
import Derived.OpenShut
import Derived.ChangeOld
import Derived.Below
import Derived.Lib.SmallJoins
import Derived.SevenTiedAt
set_option linter.unusedSimpArgs false
set_option linter.unusedVariables false
namespace Go.Proofs.YtlcidkiplidamaaGreatDoor.asmRight
open Go.ChangeShapes Go.WideShapes Go.ChangeAt Go.RowKit Go.Joins

/-- The walk: the Go text returns true, and writes nothing that was there. -/
theorem walk (s0:ByteArray) (w:World) (mx:Int) (hmx:w.cell? ⟨Tryz.maxB,0,none⟩=some (.int .i64 mx)) (w0:s0.size≤9223372036854775807):
    Calls Tryz.prog 7 #[.string s0] w fun e w'=>e= .returned (.bool true)∧Below w.heap.size w w':=by
  exact lawRight_any s0 mx w w0 hmx

set_option maxRecDepth 100000 in
theorem lifted (os:Os) (started:os.Started) (H:Type) (enc:TypeId×Value→H):
    ReturnsInHanded {} Tryz.checked os 7 .any (fun w args=> (Rows.asmRightSpec.pre enc Tryz.prog Tryz.f7 [] false w args∧laidMetH Tryz.prog laidL w)∧sizedMet enc Tryz.prog Tryz.f7 (OpenSpec.ofChange Rows.asmRightSpec) false w args)
      (Rows.asmRightSpec.post enc Tryz.prog Tryz.f7 false true false false):=by
  refine handed_shaped (C:=Tryz.checked) (X:=fun w _=>laidMetH Tryz.prog laidL w) (fun _ _ _ hh h=>h.of_heap hh) l_own started (by kernel_rfl) Tryz.func7
    (ChangeSpec.witness_at (enc:=enc) (C:=Tryz.checked) (os:=os) (X:=fun w _=>laidMetH Tryz.prog laidL w) false (laidWorld os) #[.string ⟨#[]⟩] 8 rfl (by kernel_rfl) (by kernel_rfl) (by kernel_rfl) (by kernel_rfl) (by kernel_rfl) (laidWorld_met os _)) ?_
  intro W base args ds gs before hval0 hW hsh
  obtain⟨mx,hmx⟩:=max_of_shape hsh
  have hval: ∀(j:Nat) t v,Tryz.f7.params[j]?=some t→args[j]?=some v→Value.okWide Tryz.prog W .any base t v:=hval0
  have hW':=hW
  obtain⟨p,q,hA0,hV,rfl,hfz,hnd⟩:=hW
  have hA:DataW.TrodAll enc Tryz.prog W 0 (fun _=>true) true Tryz.f7.params.toList args.toList ds p:=hA0
  rw [Tryz.params7] at hA hval
  obtain⟨v0,vs0,d0,ds0,p0,q0,hargs,rfl,rfl,h0,r0⟩:=trodAll_cons hA
  obtain⟨rfl,rfl,rfl⟩:=trodAll_nil r0
  obtain rfl:args= #[v0]:=by cases args;simp_all
  obtain⟨rfl,rfl⟩:=trodVars_none hV
  obtain⟨s0,rfl,rfl,rfl,w0⟩:=Go.ChangeMaps.open_string Tryz.underlying9 (hval 0 9 v0 rfl rfl) h0
  clear hA0 hval0
  try simp only [List.append_nil,List.nil_append] at hW'
  refine(walk s0 W mx hmx w0).mono fun e W' ⟨he,bel⟩=> ?_
  subst he
  exact⟨_,rfl,_,_,_, [],_, [],hW',trodAll_mk1 (shut_bool Tryz.underlying4 _),(trodAll_cons_mk (Go.ChangeMaps.shut_string Tryz.underlying9 w0) trodAll_mk0),rfl,bel.frame _,fun h=>by cases h⟩

theorem over:Rows.asmRightRow.holds Tryz.pinned (OpenSpec.ofChange Rows.asmRightSpec):=
  OpenClaim.holds_of_wide 7 Tryz.f7 rfl rfl rfl rfl rfl rfl rfl ⟨rfl,rfl,rfl,rfl,rfl⟩ rfl rfl rfl rfl rfl (by kernel_rfl) Tryz.func7 (by kernel_rfl)
    (of_decide_eq_true (by kernel_rfl)) (by unfold Func.isWrapper;first| (rw [if_pos (by decide+kernel)];kernel_rfl) | (rw [if_neg (by decide+kernel)];exact⟨rfl,rfl⟩))
    (fun os started H enc _=>lifted os started H enc)

/-- The statement: the tied card. -/
theorem proved:Rows.AsmRightCardSaid:=
  Claim7.holds_tied_plain_at .later [] [.data, .pinned] true (true, "6f9ee0bd0c9299783c6fd3a1607f27dc4045537abddb620d34d1506aaf447853") true
    over (fun _ h=>by cases h) (by kernel_rfl) (fun _ h=>by cases h) asmRight_row_tie rfl ⟨rfl,rfl⟩ (by kernel_rfl) rfl
    (fun f fn hf hfn=>by
      obtain rfl:f=7:=Option.some.inj ((show Tryz.prog.funcNamed "turnstile/turnstilelaw8.AsmRight" =some 7 by kernel_rfl).symm.trans hf) |>.symm
      obtain rfl:fn=Tryz.f7:=(Option.some.inj (Tryz.func7.symm.trans hfn)).symm
      exact⟨by kernel_rfl,fun j t ht=>by
        rw [Tryz.params7] at ht
        have ht':=List.mem_of_getElem? (show [9][j]?=some t from by simpa using ht)
        simp only [List.mem_cons,List.not_mem_nil,or_false] at ht'
        subst ht'
        · exact(show Tryz.prog.wantsStandIn 9=false by kernel_rfl)⟩)
    (by kernel_rfl)
#print axioms proved
end Go.Proofs.YtlcidkiplidamaaGreatDoor.asmRight
