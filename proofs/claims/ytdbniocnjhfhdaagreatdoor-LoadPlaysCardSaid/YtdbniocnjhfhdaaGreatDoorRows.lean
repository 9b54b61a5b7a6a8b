/-
  NARROWER THAN 'FOR EVERY INPUT', by the rows' own cells (each row's printed sentence says how): LoadOrder: laid · LoadRound: laid · LoadMany: laid · LoadLate: laid · LoadTwo: laid · LoadPlays: laid · LoadNames: laid.
  DERIVED. THE GIVEN ROWS OF THIS SEAT. 7 by the template 'for every input the law returns true; each argument reads behind the call as it read before'; 0 by the template 'total and deterministic' (their statements: YtdbniocnjhfhdaaGreatDoorTotals.lean).
  GIVEN WITH THE SEED: the statements are not yours to turn. If you find one false, say at which input.
  Laid BY PROGRAM, IN A SANDBOX (cutbox-rows.mjs): the forced cells as the released guide's own fill.sh prints them over the translation 881da49ae379c441… (all of the seat's roots in one cut). By AI agents, Wed Nov 11 2026. No macro, syntax, notation, axiom, sorry.
-/
import Derived.Test.YtdbniocnjhfhdaaGreatDoorChecked
import GoSem.Claim
import GoSem.ClaimJoined
import GoSem.ClaimMapViews
import Derived.JoinedTies
import Derived.KernelRfl
namespace Go.Proofs.YtdbniocnjhfhdaaGreatDoor
/- THE CELL 'sum', in the pinned program and in every row, IS THE sha256 OF THE DUMP (.gsa) THAT YtdbniocnjhfhdaaGreatDoorProg.lean LOADS. Nothing in Lean hashes anything: it is a label: what it is worth is what the hold of that sum in a sandbox is worth. -/
noncomputable def Tryz.pinned : Pinned := { name := "ytdbniocnjhfhdaagreatdoor", sum := "881da49ae379c44194eeab398cd6e5741def3f5cca40fc0b4db49026c5397484", checked := Tryz.checked }
namespace Rows
def none {H : Type} : Left H := { results := [], args := [] }

/- WHAT THE LISTED PACKAGE-LEVEL VARIABLES READ AS WHEN THE CALL BEGINS. Each datum BY PROGRAM (the guide's laid-datum.mjs) off the statement by which the dump's own 'gosem.cut.vars' lays the variable. In a bare row this is a premise. The card (YtdbniocnjhfhdaaGreatDoorCards.lean) ties it to the program's text. -/
def laid_errors_errorType {H : Type} : DataW H := .iface "internal/reflectlite.rtype" (.agg [.ptr (.lit (.string [101, 114, 114, 111, 114]))])

/-- 'turnstilelaw10.LoadOrder': WHATEVER THE INPUT: true; the input reads as it did. -/
def loadOrderSpec : ChangeSpec := { name := "loadOrder", fn := fun _ => fun
  | [d] => { results := [.lit (.bool true)], args := [d] }
  | _ => none }
def loadOrderRow : OpenClaim := { program := "ytdbniocnjhfhdaagreatdoor", sum := "881da49ae379c44194eeab398cd6e5741def3f5cca40fc0b4db49026c5397484", func := "turnstile/turnstilelaw10.LoadOrder", spec := "loadOrder", inPlace := ["internal/bytealg.IndexByteString", "internal/bytealg.IndexString", "internal/reflectlite.ValueOf", "(internal/reflectlite.Value).Type", "(internal/reflectlite.Value).IsNil", "internal/reflectlite.TypeOf", "(internal/reflectlite.Value).Elem", "(internal/reflectlite.Value).Set"], unfollowed := true, recurses := true, named := ["errors.errorType", "internal/bytealg.MaxLen"], plainKeys := false, apart := false, laid := [("errors.errorType", laid_errors_errorType)] }
def LoadOrderSaid : Prop := loadOrderRow.holds Tryz.pinned (OpenSpec.ofChange loadOrderSpec)

/-- ITS FALSE NEIGHBOUR: 'it returns false'. Refute it at one input. -/
def loadOrderWrong : ChangeSpec := { name := "loadOrder", fn := fun _ => fun
  | [d] => { results := [.lit (.bool false)], args := [d] }
  | _ => none }
def LoadOrderWrongFalsely : Prop := loadOrderRow.holds Tryz.pinned (OpenSpec.ofChange loadOrderWrong)

/-- 'turnstilelaw10.LoadRound': WHATEVER THE INPUT: true; the input reads as it did. -/
def loadRoundSpec : ChangeSpec := { name := "loadRound", fn := fun _ => fun
  | [d1, d2, d3] => { results := [.lit (.bool true)], args := [d1, d2, d3] }
  | _ => none }
def loadRoundRow : OpenClaim := { program := "ytdbniocnjhfhdaagreatdoor", sum := "881da49ae379c44194eeab398cd6e5741def3f5cca40fc0b4db49026c5397484", func := "turnstile/turnstilelaw10.LoadRound", spec := "loadRound", inPlace := ["internal/bytealg.IndexByteString", "internal/bytealg.IndexString", "internal/reflectlite.ValueOf", "(internal/reflectlite.Value).Type", "(internal/reflectlite.Value).IsNil", "internal/reflectlite.TypeOf", "(internal/reflectlite.Value).Elem", "(internal/reflectlite.Value).Set"], unfollowed := true, recurses := true, named := ["errors.errorType", "internal/bytealg.MaxLen"], plainKeys := false, apart := false, laid := [("errors.errorType", laid_errors_errorType)] }
def LoadRoundSaid : Prop := loadRoundRow.holds Tryz.pinned (OpenSpec.ofChange loadRoundSpec)

/-- ITS FALSE NEIGHBOUR: 'it returns false'. Refute it at one input. -/
def loadRoundWrong : ChangeSpec := { name := "loadRound", fn := fun _ => fun
  | [d1, d2, d3] => { results := [.lit (.bool false)], args := [d1, d2, d3] }
  | _ => none }
def LoadRoundWrongFalsely : Prop := loadRoundRow.holds Tryz.pinned (OpenSpec.ofChange loadRoundWrong)

/-- 'turnstilelaw10.LoadMany': WHATEVER THE INPUT: true; the input reads as it did. -/
def loadManySpec : ChangeSpec := { name := "loadMany", fn := fun _ => fun
  | [d] => { results := [.lit (.bool true)], args := [d] }
  | _ => none }
def loadManyRow : OpenClaim := { program := "ytdbniocnjhfhdaagreatdoor", sum := "881da49ae379c44194eeab398cd6e5741def3f5cca40fc0b4db49026c5397484", func := "turnstile/turnstilelaw10.LoadMany", spec := "loadMany", inPlace := ["internal/bytealg.IndexByteString", "internal/bytealg.IndexString", "internal/reflectlite.ValueOf", "(internal/reflectlite.Value).Type", "(internal/reflectlite.Value).IsNil", "internal/reflectlite.TypeOf", "(internal/reflectlite.Value).Elem", "(internal/reflectlite.Value).Set"], unfollowed := true, recurses := true, named := ["errors.errorType", "internal/bytealg.MaxLen"], plainKeys := false, apart := false, laid := [("errors.errorType", laid_errors_errorType)] }
def LoadManySaid : Prop := loadManyRow.holds Tryz.pinned (OpenSpec.ofChange loadManySpec)

/-- ITS FALSE NEIGHBOUR: 'it returns false'. Refute it at one input. -/
def loadManyWrong : ChangeSpec := { name := "loadMany", fn := fun _ => fun
  | [d] => { results := [.lit (.bool false)], args := [d] }
  | _ => none }
def LoadManyWrongFalsely : Prop := loadManyRow.holds Tryz.pinned (OpenSpec.ofChange loadManyWrong)

/-- 'turnstilelaw10.LoadLate': WHATEVER THE INPUT: true; the input reads as it did. -/
def loadLateSpec : ChangeSpec := { name := "loadLate", fn := fun _ => fun
  | [d1, d2] => { results := [.lit (.bool true)], args := [d1, d2] }
  | _ => none }
def loadLateRow : OpenClaim := { program := "ytdbniocnjhfhdaagreatdoor", sum := "881da49ae379c44194eeab398cd6e5741def3f5cca40fc0b4db49026c5397484", func := "turnstile/turnstilelaw10.LoadLate", spec := "loadLate", inPlace := ["internal/bytealg.IndexByteString", "internal/bytealg.IndexString", "internal/reflectlite.ValueOf", "(internal/reflectlite.Value).Type", "(internal/reflectlite.Value).IsNil", "internal/reflectlite.TypeOf", "(internal/reflectlite.Value).Elem", "(internal/reflectlite.Value).Set"], unfollowed := true, recurses := true, named := ["errors.errorType", "internal/bytealg.MaxLen"], plainKeys := false, apart := false, laid := [("errors.errorType", laid_errors_errorType)] }
def LoadLateSaid : Prop := loadLateRow.holds Tryz.pinned (OpenSpec.ofChange loadLateSpec)

/-- ITS FALSE NEIGHBOUR: 'it returns false'. Refute it at one input. -/
def loadLateWrong : ChangeSpec := { name := "loadLate", fn := fun _ => fun
  | [d1, d2] => { results := [.lit (.bool false)], args := [d1, d2] }
  | _ => none }
def LoadLateWrongFalsely : Prop := loadLateRow.holds Tryz.pinned (OpenSpec.ofChange loadLateWrong)

/-- 'turnstilelaw10.LoadTwo': WHATEVER THE INPUT: true; the input reads as it did. -/
def loadTwoSpec : ChangeSpec := { name := "loadTwo", fn := fun _ => fun
  | [d1, d2] => { results := [.lit (.bool true)], args := [d1, d2] }
  | _ => none }
def loadTwoRow : OpenClaim := { program := "ytdbniocnjhfhdaagreatdoor", sum := "881da49ae379c44194eeab398cd6e5741def3f5cca40fc0b4db49026c5397484", func := "turnstile/turnstilelaw10.LoadTwo", spec := "loadTwo", inPlace := ["internal/bytealg.IndexByteString", "internal/bytealg.IndexString", "internal/reflectlite.ValueOf", "(internal/reflectlite.Value).Type", "(internal/reflectlite.Value).IsNil", "internal/reflectlite.TypeOf", "(internal/reflectlite.Value).Elem", "(internal/reflectlite.Value).Set"], unfollowed := true, recurses := true, named := ["errors.errorType", "internal/bytealg.MaxLen"], plainKeys := false, apart := false, laid := [("errors.errorType", laid_errors_errorType)] }
def LoadTwoSaid : Prop := loadTwoRow.holds Tryz.pinned (OpenSpec.ofChange loadTwoSpec)

/-- ITS FALSE NEIGHBOUR: 'it returns false'. Refute it at one input. -/
def loadTwoWrong : ChangeSpec := { name := "loadTwo", fn := fun _ => fun
  | [d1, d2] => { results := [.lit (.bool false)], args := [d1, d2] }
  | _ => none }
def LoadTwoWrongFalsely : Prop := loadTwoRow.holds Tryz.pinned (OpenSpec.ofChange loadTwoWrong)

/-- 'turnstilelaw10.LoadPlays': WHATEVER THE INPUT: true; the input reads as it did. -/
def loadPlaysSpec : ChangeSpec := { name := "loadPlays", fn := fun _ => fun
  | [d] => { results := [.lit (.bool true)], args := [d] }
  | _ => none }
def loadPlaysRow : OpenClaim := { program := "ytdbniocnjhfhdaagreatdoor", sum := "881da49ae379c44194eeab398cd6e5741def3f5cca40fc0b4db49026c5397484", func := "turnstile/turnstilelaw10.LoadPlays", spec := "loadPlays", inPlace := ["internal/bytealg.IndexByteString", "internal/bytealg.IndexString", "internal/reflectlite.ValueOf", "(internal/reflectlite.Value).Type", "(internal/reflectlite.Value).IsNil", "internal/reflectlite.TypeOf", "(internal/reflectlite.Value).Elem", "(internal/reflectlite.Value).Set"], unfollowed := true, recurses := true, named := ["errors.errorType", "internal/bytealg.MaxLen"], plainKeys := false, apart := false, laid := [("errors.errorType", laid_errors_errorType)] }
def LoadPlaysSaid : Prop := loadPlaysRow.holds Tryz.pinned (OpenSpec.ofChange loadPlaysSpec)

/-- ITS FALSE NEIGHBOUR: 'it returns false'. Refute it at one input. -/
def loadPlaysWrong : ChangeSpec := { name := "loadPlays", fn := fun _ => fun
  | [d] => { results := [.lit (.bool false)], args := [d] }
  | _ => none }
def LoadPlaysWrongFalsely : Prop := loadPlaysRow.holds Tryz.pinned (OpenSpec.ofChange loadPlaysWrong)

/-- 'turnstilelaw10.LoadNames': WHATEVER THE INPUT: true; the input reads as it did. -/
def loadNamesSpec : ChangeSpec := { name := "loadNames", fn := fun _ => fun
  | [d] => { results := [.lit (.bool true)], args := [d] }
  | _ => none }
def loadNamesRow : OpenClaim := { program := "ytdbniocnjhfhdaagreatdoor", sum := "881da49ae379c44194eeab398cd6e5741def3f5cca40fc0b4db49026c5397484", func := "turnstile/turnstilelaw10.LoadNames", spec := "loadNames", inPlace := ["internal/bytealg.IndexByteString", "internal/bytealg.IndexString", "internal/reflectlite.ValueOf", "(internal/reflectlite.Value).Type", "(internal/reflectlite.Value).IsNil", "internal/reflectlite.TypeOf", "(internal/reflectlite.Value).Elem", "(internal/reflectlite.Value).Set"], unfollowed := true, recurses := true, named := ["errors.errorType", "internal/bytealg.MaxLen"], plainKeys := false, apart := false, laid := [("errors.errorType", laid_errors_errorType)] }
def LoadNamesSaid : Prop := loadNamesRow.holds Tryz.pinned (OpenSpec.ofChange loadNamesSpec)

/-- ITS FALSE NEIGHBOUR: 'it returns false'. Refute it at one input. -/
def loadNamesWrong : ChangeSpec := { name := "loadNames", fn := fun _ => fun
  | [d] => { results := [.lit (.bool false)], args := [d] }
  | _ => none }
def LoadNamesWrongFalsely : Prop := loadNamesRow.holds Tryz.pinned (OpenSpec.ofChange loadNamesWrong)

/- THE SECOND FORM. 'bulk': how many values and letters a reading holds, each counted each time it is reached (what is shared counts as often as it is met; a slice's spare places count too). A statement '..UptoSaid' is the law's where the arguments, and the package variables that the reading takes, are together of bulk at most 1048576: NARROWER than '..Said'. Prove '..Said' where nothing that the law and all that it calls make is longer than what came in: it says more and counts as full. Else prove '..UptoSaid'. A law counts once. -/
mutual
def uptoBulk {H : Type} : DataW H → Nat
  | .lit (.string bytes) => bytes.length + 1
  | .lit _ => 1
  | .nil => 1
  | .ptr d => uptoBulk d + 1
  | .slice elems spare => uptoBulkAll elems + uptoBulkAll spare + 1
  | .agg parts => uptoBulkAll parts + 1
  | .iface _ d => uptoBulk d + 1
  | .map entries => uptoBulkEntries entries + 1
  | .held _ => 1
def uptoBulkAll {H : Type} : List (DataW H) → Nat
  | [] => 0
  | d :: r => uptoBulk d + uptoBulkAll r
def uptoBulkEntries {H : Type} : List (Lit × DataW H) → Nat
  | [] => 0
  | x :: r => uptoBulkEntry x + uptoBulkEntries r
def uptoBulkEntry {H : Type} : Lit × DataW H → Nat
  | (.string bytes, d) => bytes.length + uptoBulk d + 1
  | (_, d) => uptoBulk d + 1
 end
def uptoSmall : (H : Type) → List (DataW H) → Bool := fun _ ds => decide (uptoBulkAll ds ≤ 1048576)
def OpenSpec.upto (s : _root_.Go.ChangeSpec) : _root_.Go.OpenSpec := { _root_.Go.OpenSpec.ofChange s with cond := some uptoSmall }

/-- 'turnstilelaw10.LoadOrder', WHERE WHAT IT READS IS OF BULK AT MOST 1048576: true; the input reads as it did. -/
def loadOrderUptoRow : OpenClaim := { program := "ytdbniocnjhfhdaagreatdoor", sum := "881da49ae379c44194eeab398cd6e5741def3f5cca40fc0b4db49026c5397484", func := "turnstile/turnstilelaw10.LoadOrder", spec := "loadOrder", inPlace := ["internal/bytealg.IndexByteString", "internal/bytealg.IndexString", "internal/reflectlite.ValueOf", "(internal/reflectlite.Value).Type", "(internal/reflectlite.Value).IsNil", "internal/reflectlite.TypeOf", "(internal/reflectlite.Value).Elem", "(internal/reflectlite.Value).Set"], unfollowed := true, recurses := true, named := ["errors.errorType", "internal/bytealg.MaxLen"], plainKeys := false, apart := false, laid := [("errors.errorType", laid_errors_errorType)], narrowed := true }
def LoadOrderUptoSaid : Prop := loadOrderUptoRow.holds Tryz.pinned (OpenSpec.upto loadOrderSpec)

/-- 'turnstilelaw10.LoadRound', WHERE WHAT IT READS IS OF BULK AT MOST 1048576: true; the input reads as it did. -/
def loadRoundUptoRow : OpenClaim := { program := "ytdbniocnjhfhdaagreatdoor", sum := "881da49ae379c44194eeab398cd6e5741def3f5cca40fc0b4db49026c5397484", func := "turnstile/turnstilelaw10.LoadRound", spec := "loadRound", inPlace := ["internal/bytealg.IndexByteString", "internal/bytealg.IndexString", "internal/reflectlite.ValueOf", "(internal/reflectlite.Value).Type", "(internal/reflectlite.Value).IsNil", "internal/reflectlite.TypeOf", "(internal/reflectlite.Value).Elem", "(internal/reflectlite.Value).Set"], unfollowed := true, recurses := true, named := ["errors.errorType", "internal/bytealg.MaxLen"], plainKeys := false, apart := false, laid := [("errors.errorType", laid_errors_errorType)], narrowed := true }
def LoadRoundUptoSaid : Prop := loadRoundUptoRow.holds Tryz.pinned (OpenSpec.upto loadRoundSpec)

/-- 'turnstilelaw10.LoadMany', WHERE WHAT IT READS IS OF BULK AT MOST 1048576: true; the input reads as it did. -/
def loadManyUptoRow : OpenClaim := { program := "ytdbniocnjhfhdaagreatdoor", sum := "881da49ae379c44194eeab398cd6e5741def3f5cca40fc0b4db49026c5397484", func := "turnstile/turnstilelaw10.LoadMany", spec := "loadMany", inPlace := ["internal/bytealg.IndexByteString", "internal/bytealg.IndexString", "internal/reflectlite.ValueOf", "(internal/reflectlite.Value).Type", "(internal/reflectlite.Value).IsNil", "internal/reflectlite.TypeOf", "(internal/reflectlite.Value).Elem", "(internal/reflectlite.Value).Set"], unfollowed := true, recurses := true, named := ["errors.errorType", "internal/bytealg.MaxLen"], plainKeys := false, apart := false, laid := [("errors.errorType", laid_errors_errorType)], narrowed := true }
def LoadManyUptoSaid : Prop := loadManyUptoRow.holds Tryz.pinned (OpenSpec.upto loadManySpec)

/-- 'turnstilelaw10.LoadLate', WHERE WHAT IT READS IS OF BULK AT MOST 1048576: true; the input reads as it did. -/
def loadLateUptoRow : OpenClaim := { program := "ytdbniocnjhfhdaagreatdoor", sum := "881da49ae379c44194eeab398cd6e5741def3f5cca40fc0b4db49026c5397484", func := "turnstile/turnstilelaw10.LoadLate", spec := "loadLate", inPlace := ["internal/bytealg.IndexByteString", "internal/bytealg.IndexString", "internal/reflectlite.ValueOf", "(internal/reflectlite.Value).Type", "(internal/reflectlite.Value).IsNil", "internal/reflectlite.TypeOf", "(internal/reflectlite.Value).Elem", "(internal/reflectlite.Value).Set"], unfollowed := true, recurses := true, named := ["errors.errorType", "internal/bytealg.MaxLen"], plainKeys := false, apart := false, laid := [("errors.errorType", laid_errors_errorType)], narrowed := true }
def LoadLateUptoSaid : Prop := loadLateUptoRow.holds Tryz.pinned (OpenSpec.upto loadLateSpec)

/-- 'turnstilelaw10.LoadTwo', WHERE WHAT IT READS IS OF BULK AT MOST 1048576: true; the input reads as it did. -/
def loadTwoUptoRow : OpenClaim := { program := "ytdbniocnjhfhdaagreatdoor", sum := "881da49ae379c44194eeab398cd6e5741def3f5cca40fc0b4db49026c5397484", func := "turnstile/turnstilelaw10.LoadTwo", spec := "loadTwo", inPlace := ["internal/bytealg.IndexByteString", "internal/bytealg.IndexString", "internal/reflectlite.ValueOf", "(internal/reflectlite.Value).Type", "(internal/reflectlite.Value).IsNil", "internal/reflectlite.TypeOf", "(internal/reflectlite.Value).Elem", "(internal/reflectlite.Value).Set"], unfollowed := true, recurses := true, named := ["errors.errorType", "internal/bytealg.MaxLen"], plainKeys := false, apart := false, laid := [("errors.errorType", laid_errors_errorType)], narrowed := true }
def LoadTwoUptoSaid : Prop := loadTwoUptoRow.holds Tryz.pinned (OpenSpec.upto loadTwoSpec)

/-- 'turnstilelaw10.LoadPlays', WHERE WHAT IT READS IS OF BULK AT MOST 1048576: true; the input reads as it did. -/
def loadPlaysUptoRow : OpenClaim := { program := "ytdbniocnjhfhdaagreatdoor", sum := "881da49ae379c44194eeab398cd6e5741def3f5cca40fc0b4db49026c5397484", func := "turnstile/turnstilelaw10.LoadPlays", spec := "loadPlays", inPlace := ["internal/bytealg.IndexByteString", "internal/bytealg.IndexString", "internal/reflectlite.ValueOf", "(internal/reflectlite.Value).Type", "(internal/reflectlite.Value).IsNil", "internal/reflectlite.TypeOf", "(internal/reflectlite.Value).Elem", "(internal/reflectlite.Value).Set"], unfollowed := true, recurses := true, named := ["errors.errorType", "internal/bytealg.MaxLen"], plainKeys := false, apart := false, laid := [("errors.errorType", laid_errors_errorType)], narrowed := true }
def LoadPlaysUptoSaid : Prop := loadPlaysUptoRow.holds Tryz.pinned (OpenSpec.upto loadPlaysSpec)

/-- 'turnstilelaw10.LoadNames', WHERE WHAT IT READS IS OF BULK AT MOST 1048576: true; the input reads as it did. -/
def loadNamesUptoRow : OpenClaim := { program := "ytdbniocnjhfhdaagreatdoor", sum := "881da49ae379c44194eeab398cd6e5741def3f5cca40fc0b4db49026c5397484", func := "turnstile/turnstilelaw10.LoadNames", spec := "loadNames", inPlace := ["internal/bytealg.IndexByteString", "internal/bytealg.IndexString", "internal/reflectlite.ValueOf", "(internal/reflectlite.Value).Type", "(internal/reflectlite.Value).IsNil", "internal/reflectlite.TypeOf", "(internal/reflectlite.Value).Elem", "(internal/reflectlite.Value).Set"], unfollowed := true, recurses := true, named := ["errors.errorType", "internal/bytealg.MaxLen"], plainKeys := false, apart := false, laid := [("errors.errorType", laid_errors_errorType)], narrowed := true }
def LoadNamesUptoSaid : Prop := loadNamesUptoRow.holds Tryz.pinned (OpenSpec.upto loadNamesSpec)

end Rows
end Go.Proofs.YtdbniocnjhfhdaaGreatDoor
