/-
  turnstile/turnstilelaw10.LoadPlays answers true at every argument; the arguments read behind the call as before. Conditions: the listed package-level variable reads as the program's text lays it; the card ties it to the text.
-/
import Derived.Test.YtdbniocnjhfhdaaGreatDoorTie
import Derived.Test.YtdbniocnjhfhdaaGreatDoorCards
import Derived.Test.YtdbniocnjhfhdaaGreatDoorB40
set_option linter.unusedSimpArgs false
set_option linter.unusedVariables false
namespace Go.Proofs.YtdbniocnjhfhdaaGreatDoor.loadPlays
open Go.ChangeShapes Go.WideShapes Go.ChangeAt Go.RowKit Go.Joins
theorem laidOut:laidOutB Tryz.prog=true:=by kernel_rfl

/-- The walk: the Go text returns true, and writes nothing that was there. -/
theorem walk (a0:Option Addr) (len0 cap0:Nat) (l0:List DfD) (w:World) (hgl:GlB w) (w0:oqF w a0 len0 cap0 l0) (hs0: ∀d∈l0,d.name.size≤140737488351232∧d.bytes.length≤140737488351232):
    Calls Tryz.prog 8 #[.slice a0 len0 cap0] w fun e w'=>e= .returned (.bool true)∧Below w.heap.size w w':=by
  exact oqG a0 len0 cap0 l0 w hgl w0 hs0

set_option maxRecDepth 100000 in
theorem lifted (os:Os) (started:os.Started) (H:Type) (enc:TypeId×Value→H):
    ReturnsInHanded {} Tryz.checked os 8 .any (fun w args=> (Rows.loadPlaysSpec.pre enc Tryz.prog Tryz.f8 [] false w args∧laidMetH Tryz.prog [("errors.errorType",Rows.laid_errors_errorType)] w)∧sizedMet enc Tryz.prog Tryz.f8 (OpenSpec.ofChange Rows.loadPlaysSpec) false w args)
      (Rows.loadPlaysSpec.post enc Tryz.prog Tryz.f8 false true false false):=by
  refine returnsInHanded_of_change_and (C:=Tryz.checked) (X:=fun w _=>laidMetH Tryz.prog [("errors.errorType",Rows.laid_errors_errorType)] w) (fun _ _ _ hh h=>h.of_heap hh) l_own started Kq9 Tryz.func8
    (ChangeSpec.witness_at (enc:=enc) (C:=Tryz.checked) (os:=os) (X:=fun w _=>laidMetH Tryz.prog [("errors.errorType",Rows.laid_errors_errorType)] w) false (laidWorld os) #[.slice none 0 0] 8 rfl Kq9 Kq9 Kq9 Kq9 Kq9 (nqM os _)) ?_
  intro W base args ds gs before hval0 hW _ hwt hL _
  have hgl:=oqH hL
  have hval: ∀(j:Nat) t v,Tryz.f8.params[j]?=some t→args[j]?=some v→Value.okWide Tryz.prog W .any base t v:=hval0
  have hW':=hW
  obtain⟨p,q,hA0,hV,rfl,hfz,hnd⟩:=hW
  have hA:DataW.TrodAll enc Tryz.prog W 0 (fun _=>true) true Tryz.f8.params.toList args.toList ds p:=hA0
  rw [Tryz.params8] at hA hval hwt
  obtain⟨v0,vs0,d0,ds0,p0,q0,hargs,rfl,rfl,h0,r0⟩:=trodAll_cons hA
  obtain⟨rfl,rfl,rfl⟩:=trodAll_nil r0
  obtain rfl:args= #[v0]:=by cases args;simp_all
  obtain⟨rfl,rfl⟩:=trodVars_none hV
  obtain⟨a0,len0,cap0,rfl⟩:=okWide_slice Tryz.underlying22 (hval 0 22 v0 rfl rfl)
  have k0:=h0
  have lt0: ∀x∈p0,x.block<W.heap.size:=by obtain⟨m,hm⟩:=k0;exact DataW.trod_lt m _ _ _ hm
  obtain⟨l0,w0,ws0⟩:=oq3 h0
  have hs0:=ws0 (by
    simp only [Array.toList,List.cons_append,List.nil_append,List.append_nil,DataW.weightsEach,List.all_append,Bool.and_eq_true] at hwt
    exact hwt.1)
  clear hA0 hval0
  try simp only [List.append_nil,List.nil_append] at hW'
  refine(walk a0 len0 cap0 l0 W hgl w0 hs0).mono fun e W' ⟨he,bel⟩=> ?_
  subst he
  exact⟨_,rfl,_,_,_, [],_, [],hW',trodAll_mk1 (shut_bool Tryz.underlying4 _),(trodAll_cons_mk (Below.trod laidOut Kq9 (of_decide_eq_true Kq9) k0 bel lt0) trodAll_mk0),rfl,bel.frame _,fun h=>by cases h⟩

theorem over:Rows.loadPlaysRow.holds Tryz.pinned (OpenSpec.ofChange Rows.loadPlaysSpec):=
  OpenClaim.holds_of_wide 8 Tryz.f8 rfl rfl rfl rfl rfl rfl rfl ⟨rfl,rfl,rfl,rfl,rfl⟩ rfl rfl rfl rfl rfl Kq9 Tryz.func8 Kq9
    (of_decide_eq_true Kq9) (by unfold Func.isWrapper;first| (rw [if_pos (by decide+kernel)];kernel_rfl) | (rw [if_neg (by decide+kernel)];exact⟨rfl,rfl⟩))
    (fun os started H enc _=>lifted os started H enc)

/-- The statement: the tied card. -/
theorem proved:Rows.LoadPlaysCardSaid:=
  Claim7.holds_tied_plain_at .later [] [.handle] true (true, "7170cad1fcce2386491946e9dd719369659763140dbb7e9311a234977865a815") true
    over (fun _ h=>by cases h) Kq9 (fun _ h=>by cases h) loadPlays_row_tie rfl ⟨rfl,rfl⟩ Kq9 rfl
    (fun f fn hf hfn=>by
      obtain rfl:f=8:=Option.some.inj ((show Tryz.prog.funcNamed "turnstile/turnstilelaw10.LoadPlays" =some 8 by kernel_rfl).symm.trans hf) |>.symm
      obtain rfl:fn=Tryz.f8:=(Option.some.inj (Tryz.func8.symm.trans hfn)).symm
      exact⟨by kernel_rfl,fun j t ht=>by
        rw [Tryz.params8] at ht
        have ht':=List.mem_of_getElem? (show [22][j]?=some t from by simpa using ht)
        simp only [List.mem_cons,List.not_mem_nil,or_false] at ht'
        subst ht'
        · exact(show Tryz.prog.wantsStandIn 22=false by kernel_rfl)⟩)
    Kq9
#print axioms proved
end Go.Proofs.YtdbniocnjhfhdaaGreatDoor.loadPlays
