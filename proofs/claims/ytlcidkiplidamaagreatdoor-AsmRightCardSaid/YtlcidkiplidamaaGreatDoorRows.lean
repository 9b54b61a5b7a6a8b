/-
  NARROWER THAN 'FOR EVERY INPUT', by the rows' own cells (each row's printed sentence says how): AsmReads: laid · AsmBlank: laid · AsmPooled: laid · AsmLabels: laid · AsmRight: laid.
  DERIVED. THE GIVEN ROWS OF THIS SEAT. 5 by the template 'for every input the law returns true; each argument reads behind the call as it read before'; 0 by the template 'total and deterministic' (their statements: YtlcidkiplidamaaGreatDoorTotals.lean).
  GIVEN WITH THE SEED: the statements are not yours to turn. If you find one false, say at which input.
  Laid BY PROGRAM, IN A SANDBOX (cutbox-rows.mjs): the forced cells as the released guide's own fill.sh prints them over the translation 9371e2a47ed3ad19… (all of the seat's roots in one cut). By AI agents, Wed Nov 11 2026. No macro, syntax, notation, axiom, sorry.
-/
import Derived.Test.YtlcidkiplidamaaGreatDoorChecked
import GoSem.PinnedTables
import GoSem.Claim
import GoSem.ClaimJoined
import GoSem.ClaimMapViews
import Derived.JoinedTies
import Derived.KernelRfl
namespace Go.Proofs.YtlcidkiplidamaaGreatDoor
/- THE CELL 'sum', in the pinned program and in every row, IS THE sha256 OF THE DUMP (.gsa) THAT YtlcidkiplidamaaGreatDoorProg.lean LOADS. Nothing in Lean hashes anything: it is a label: what it is worth is what the hold of that sum in a sandbox is worth. -/
noncomputable def Tryz.pinned : Pinned := { name := "ytlcidkiplidamaagreatdoor", sum := "9371e2a47ed3ad19b7c1ac8e88156d633cada8f3cb7c3773382d281268245654", checked := Tryz.checked }
namespace Rows
def none {H : Type} : Left H := { results := [], args := [] }

/- WHAT THE LISTED PACKAGE-LEVEL VARIABLES READ AS WHEN THE CALL BEGINS. Each datum BY PROGRAM (the guide's laid-datum.mjs) off the statement by which the dump's own 'gosem.cut.vars' lays the variable. In a bare row this is a premise. The card (YtlcidkiplidamaaGreatDoorCards.lean) ties it to the program's text. -/
def laid_unicode_utf8_acceptRanges {H : Type} : DataW H := .agg [.agg [.lit (.int .u8 128), .lit (.int .u8 191)], .agg [.lit (.int .u8 160), .lit (.int .u8 191)], .agg [.lit (.int .u8 128), .lit (.int .u8 159)], .agg [.lit (.int .u8 144), .lit (.int .u8 191)], .agg [.lit (.int .u8 128), .lit (.int .u8 143)], .agg [.lit (.int .u8 0), .lit (.int .u8 0)], .agg [.lit (.int .u8 0), .lit (.int .u8 0)], .agg [.lit (.int .u8 0), .lit (.int .u8 0)], .agg [.lit (.int .u8 0), .lit (.int .u8 0)], .agg [.lit (.int .u8 0), .lit (.int .u8 0)], .agg [.lit (.int .u8 0), .lit (.int .u8 0)], .agg [.lit (.int .u8 0), .lit (.int .u8 0)], .agg [.lit (.int .u8 0), .lit (.int .u8 0)], .agg [.lit (.int .u8 0), .lit (.int .u8 0)], .agg [.lit (.int .u8 0), .lit (.int .u8 0)], .agg [.lit (.int .u8 0), .lit (.int .u8 0)]]
/-- One of Go's own tables, pinned by name: the form's constant. -/
def laid_unicode_utf8_first : DataW Unit := Go.Pinned.utf8First

/-- 'turnstilelaw8.AsmReads': WHATEVER THE INPUT: true; the input reads as it did. -/
def asmReadsSpec : ChangeSpec := { name := "asmReads", fn := fun _ => fun
  | [d1, d2] => { results := [.lit (.bool true)], args := [d1, d2] }
  | _ => none }
def asmReadsRow : OpenClaim := { program := "ytlcidkiplidamaagreatdoor", sum := "9371e2a47ed3ad19b7c1ac8e88156d633cada8f3cb7c3773382d281268245654", func := "turnstile/turnstilelaw8.AsmReads", spec := "asmReads", inPlace := ["internal/bytealg.CountString", "internal/bytealg.IndexByteString", "internal/bytealg.IndexString"], unfollowed := true, recurses := true, named := ["unicode/utf8.first", "unicode/utf8.acceptRanges", "internal/bytealg.MaxLen"], plainKeys := false, apart := false, laid := [("unicode/utf8.acceptRanges", laid_unicode_utf8_acceptRanges), ("unicode/utf8.first", laid_unicode_utf8_first)] }
def AsmReadsSaid : Prop := asmReadsRow.holds Tryz.pinned (OpenSpec.ofChange asmReadsSpec)

/-- ITS FALSE NEIGHBOUR: 'it returns false'. Refute it at one input. -/
def asmReadsWrong : ChangeSpec := { name := "asmReads", fn := fun _ => fun
  | [d1, d2] => { results := [.lit (.bool false)], args := [d1, d2] }
  | _ => none }
def AsmReadsWrongFalsely : Prop := asmReadsRow.holds Tryz.pinned (OpenSpec.ofChange asmReadsWrong)

/-- 'turnstilelaw8.AsmBlank': WHATEVER THE INPUT: true; the input reads as it did. -/
def asmBlankSpec : ChangeSpec := { name := "asmBlank", fn := fun _ => fun
  | [d1, d2] => { results := [.lit (.bool true)], args := [d1, d2] }
  | _ => none }
def asmBlankRow : OpenClaim := { program := "ytlcidkiplidamaagreatdoor", sum := "9371e2a47ed3ad19b7c1ac8e88156d633cada8f3cb7c3773382d281268245654", func := "turnstile/turnstilelaw8.AsmBlank", spec := "asmBlank", inPlace := ["internal/bytealg.CountString", "internal/bytealg.IndexByteString", "internal/bytealg.IndexString"], unfollowed := true, recurses := true, named := ["unicode/utf8.first", "unicode/utf8.acceptRanges", "internal/bytealg.MaxLen"], plainKeys := false, apart := false, laid := [("unicode/utf8.acceptRanges", laid_unicode_utf8_acceptRanges), ("unicode/utf8.first", laid_unicode_utf8_first)] }
def AsmBlankSaid : Prop := asmBlankRow.holds Tryz.pinned (OpenSpec.ofChange asmBlankSpec)

/-- ITS FALSE NEIGHBOUR: 'it returns false'. Refute it at one input. -/
def asmBlankWrong : ChangeSpec := { name := "asmBlank", fn := fun _ => fun
  | [d1, d2] => { results := [.lit (.bool false)], args := [d1, d2] }
  | _ => none }
def AsmBlankWrongFalsely : Prop := asmBlankRow.holds Tryz.pinned (OpenSpec.ofChange asmBlankWrong)

/-- 'turnstilelaw8.AsmPooled': WHATEVER THE INPUT: true; the input reads as it did. -/
def asmPooledSpec : ChangeSpec := { name := "asmPooled", fn := fun _ => fun
  | [d] => { results := [.lit (.bool true)], args := [d] }
  | _ => none }
def asmPooledRow : OpenClaim := { program := "ytlcidkiplidamaagreatdoor", sum := "9371e2a47ed3ad19b7c1ac8e88156d633cada8f3cb7c3773382d281268245654", func := "turnstile/turnstilelaw8.AsmPooled", spec := "asmPooled", inPlace := ["internal/bytealg.CountString", "internal/bytealg.IndexByteString", "internal/bytealg.IndexString"], unfollowed := true, recurses := true, named := ["unicode/utf8.first", "unicode/utf8.acceptRanges", "internal/bytealg.MaxLen"], plainKeys := false, apart := false, laid := [("unicode/utf8.acceptRanges", laid_unicode_utf8_acceptRanges), ("unicode/utf8.first", laid_unicode_utf8_first)] }
def AsmPooledSaid : Prop := asmPooledRow.holds Tryz.pinned (OpenSpec.ofChange asmPooledSpec)

/-- ITS FALSE NEIGHBOUR: 'it returns false'. Refute it at one input. -/
def asmPooledWrong : ChangeSpec := { name := "asmPooled", fn := fun _ => fun
  | [d] => { results := [.lit (.bool false)], args := [d] }
  | _ => none }
def AsmPooledWrongFalsely : Prop := asmPooledRow.holds Tryz.pinned (OpenSpec.ofChange asmPooledWrong)

/-- 'turnstilelaw8.AsmLabels': WHATEVER THE INPUT: true; the input reads as it did. -/
def asmLabelsSpec : ChangeSpec := { name := "asmLabels", fn := fun _ => fun
  | [d1, d2] => { results := [.lit (.bool true)], args := [d1, d2] }
  | _ => none }
def asmLabelsRow : OpenClaim := { program := "ytlcidkiplidamaagreatdoor", sum := "9371e2a47ed3ad19b7c1ac8e88156d633cada8f3cb7c3773382d281268245654", func := "turnstile/turnstilelaw8.AsmLabels", spec := "asmLabels", inPlace := ["internal/bytealg.CountString", "internal/bytealg.IndexByteString", "internal/bytealg.IndexString"], unfollowed := true, recurses := true, named := ["unicode/utf8.first", "unicode/utf8.acceptRanges", "internal/bytealg.MaxLen"], plainKeys := false, apart := false, laid := [("unicode/utf8.acceptRanges", laid_unicode_utf8_acceptRanges), ("unicode/utf8.first", laid_unicode_utf8_first)] }
def AsmLabelsSaid : Prop := asmLabelsRow.holds Tryz.pinned (OpenSpec.ofChange asmLabelsSpec)

/-- ITS FALSE NEIGHBOUR: 'it returns false'. Refute it at one input. -/
def asmLabelsWrong : ChangeSpec := { name := "asmLabels", fn := fun _ => fun
  | [d1, d2] => { results := [.lit (.bool false)], args := [d1, d2] }
  | _ => none }
def AsmLabelsWrongFalsely : Prop := asmLabelsRow.holds Tryz.pinned (OpenSpec.ofChange asmLabelsWrong)

/-- 'turnstilelaw8.AsmRight': WHATEVER THE INPUT: true; the input reads as it did. -/
def asmRightSpec : ChangeSpec := { name := "asmRight", fn := fun _ => fun
  | [d] => { results := [.lit (.bool true)], args := [d] }
  | _ => none }
def asmRightRow : OpenClaim := { program := "ytlcidkiplidamaagreatdoor", sum := "9371e2a47ed3ad19b7c1ac8e88156d633cada8f3cb7c3773382d281268245654", func := "turnstile/turnstilelaw8.AsmRight", spec := "asmRight", inPlace := ["internal/bytealg.CountString", "internal/bytealg.IndexByteString", "internal/bytealg.IndexString"], unfollowed := true, recurses := true, named := ["unicode/utf8.first", "unicode/utf8.acceptRanges", "internal/bytealg.MaxLen"], plainKeys := false, apart := false, laid := [("unicode/utf8.acceptRanges", laid_unicode_utf8_acceptRanges), ("unicode/utf8.first", laid_unicode_utf8_first)] }
def AsmRightSaid : Prop := asmRightRow.holds Tryz.pinned (OpenSpec.ofChange asmRightSpec)

/-- ITS FALSE NEIGHBOUR: 'it returns false'. Refute it at one input. -/
def asmRightWrong : ChangeSpec := { name := "asmRight", fn := fun _ => fun
  | [d] => { results := [.lit (.bool false)], args := [d] }
  | _ => none }
def AsmRightWrongFalsely : Prop := asmRightRow.holds Tryz.pinned (OpenSpec.ofChange asmRightWrong)

/- THE SECOND FORM. 'bulk': how many values and letters a reading holds, each counted each time it is reached (what is shared counts as often as it is met; a slice's spare places count too). A statement '..UptoSaid' is the law's where the arguments, and the package variables that the reading takes, are together of bulk at most 1048576: NARROWER than '..Said'. Prove '..Said' where nothing that the law and all that it calls make is longer than what came in: it says more and counts as full. Else prove '..UptoSaid'. A law counts once. -/
mutual
def uptoBulk {H : Type} : DataW H → Nat
  | .lit (.string bytes) => bytes.length + 1
  | .lit _ => 1
  | .nil => 1
  | .ptr d => uptoBulk d + 1
  | .slice elems spare => uptoBulkAll elems + uptoBulkAll spare + 1
  | .agg parts => uptoBulkAll parts + 1
  | .iface _ d => uptoBulk d + 1
  | .map entries => uptoBulkEntries entries + 1
  | .held _ => 1
def uptoBulkAll {H : Type} : List (DataW H) → Nat
  | [] => 0
  | d :: r => uptoBulk d + uptoBulkAll r
def uptoBulkEntries {H : Type} : List (Lit × DataW H) → Nat
  | [] => 0
  | x :: r => uptoBulkEntry x + uptoBulkEntries r
def uptoBulkEntry {H : Type} : Lit × DataW H → Nat
  | (.string bytes, d) => bytes.length + uptoBulk d + 1
  | (_, d) => uptoBulk d + 1
 end
def uptoSmall : (H : Type) → List (DataW H) → Bool := fun _ ds => decide (uptoBulkAll ds ≤ 1048576)
def OpenSpec.upto (s : _root_.Go.ChangeSpec) : _root_.Go.OpenSpec := { _root_.Go.OpenSpec.ofChange s with cond := some uptoSmall }

/-- 'turnstilelaw8.AsmReads', WHERE WHAT IT READS IS OF BULK AT MOST 1048576: true; the input reads as it did. -/
def asmReadsUptoRow : OpenClaim := { program := "ytlcidkiplidamaagreatdoor", sum := "9371e2a47ed3ad19b7c1ac8e88156d633cada8f3cb7c3773382d281268245654", func := "turnstile/turnstilelaw8.AsmReads", spec := "asmReads", inPlace := ["internal/bytealg.CountString", "internal/bytealg.IndexByteString", "internal/bytealg.IndexString"], unfollowed := true, recurses := true, named := ["unicode/utf8.first", "unicode/utf8.acceptRanges", "internal/bytealg.MaxLen"], plainKeys := false, apart := false, laid := [("unicode/utf8.acceptRanges", laid_unicode_utf8_acceptRanges), ("unicode/utf8.first", laid_unicode_utf8_first)], narrowed := true }
def AsmReadsUptoSaid : Prop := asmReadsUptoRow.holds Tryz.pinned (OpenSpec.upto asmReadsSpec)

/-- 'turnstilelaw8.AsmBlank', WHERE WHAT IT READS IS OF BULK AT MOST 1048576: true; the input reads as it did. -/
def asmBlankUptoRow : OpenClaim := { program := "ytlcidkiplidamaagreatdoor", sum := "9371e2a47ed3ad19b7c1ac8e88156d633cada8f3cb7c3773382d281268245654", func := "turnstile/turnstilelaw8.AsmBlank", spec := "asmBlank", inPlace := ["internal/bytealg.CountString", "internal/bytealg.IndexByteString", "internal/bytealg.IndexString"], unfollowed := true, recurses := true, named := ["unicode/utf8.first", "unicode/utf8.acceptRanges", "internal/bytealg.MaxLen"], plainKeys := false, apart := false, laid := [("unicode/utf8.acceptRanges", laid_unicode_utf8_acceptRanges), ("unicode/utf8.first", laid_unicode_utf8_first)], narrowed := true }
def AsmBlankUptoSaid : Prop := asmBlankUptoRow.holds Tryz.pinned (OpenSpec.upto asmBlankSpec)

/-- 'turnstilelaw8.AsmPooled', WHERE WHAT IT READS IS OF BULK AT MOST 1048576: true; the input reads as it did. -/
def asmPooledUptoRow : OpenClaim := { program := "ytlcidkiplidamaagreatdoor", sum := "9371e2a47ed3ad19b7c1ac8e88156d633cada8f3cb7c3773382d281268245654", func := "turnstile/turnstilelaw8.AsmPooled", spec := "asmPooled", inPlace := ["internal/bytealg.CountString", "internal/bytealg.IndexByteString", "internal/bytealg.IndexString"], unfollowed := true, recurses := true, named := ["unicode/utf8.first", "unicode/utf8.acceptRanges", "internal/bytealg.MaxLen"], plainKeys := false, apart := false, laid := [("unicode/utf8.acceptRanges", laid_unicode_utf8_acceptRanges), ("unicode/utf8.first", laid_unicode_utf8_first)], narrowed := true }
def AsmPooledUptoSaid : Prop := asmPooledUptoRow.holds Tryz.pinned (OpenSpec.upto asmPooledSpec)

/-- 'turnstilelaw8.AsmLabels', WHERE WHAT IT READS IS OF BULK AT MOST 1048576: true; the input reads as it did. -/
def asmLabelsUptoRow : OpenClaim := { program := "ytlcidkiplidamaagreatdoor", sum := "9371e2a47ed3ad19b7c1ac8e88156d633cada8f3cb7c3773382d281268245654", func := "turnstile/turnstilelaw8.AsmLabels", spec := "asmLabels", inPlace := ["internal/bytealg.CountString", "internal/bytealg.IndexByteString", "internal/bytealg.IndexString"], unfollowed := true, recurses := true, named := ["unicode/utf8.first", "unicode/utf8.acceptRanges", "internal/bytealg.MaxLen"], plainKeys := false, apart := false, laid := [("unicode/utf8.acceptRanges", laid_unicode_utf8_acceptRanges), ("unicode/utf8.first", laid_unicode_utf8_first)], narrowed := true }
def AsmLabelsUptoSaid : Prop := asmLabelsUptoRow.holds Tryz.pinned (OpenSpec.upto asmLabelsSpec)

/-- 'turnstilelaw8.AsmRight', WHERE WHAT IT READS IS OF BULK AT MOST 1048576: true; the input reads as it did. -/
def asmRightUptoRow : OpenClaim := { program := "ytlcidkiplidamaagreatdoor", sum := "9371e2a47ed3ad19b7c1ac8e88156d633cada8f3cb7c3773382d281268245654", func := "turnstile/turnstilelaw8.AsmRight", spec := "asmRight", inPlace := ["internal/bytealg.CountString", "internal/bytealg.IndexByteString", "internal/bytealg.IndexString"], unfollowed := true, recurses := true, named := ["unicode/utf8.first", "unicode/utf8.acceptRanges", "internal/bytealg.MaxLen"], plainKeys := false, apart := false, laid := [("unicode/utf8.acceptRanges", laid_unicode_utf8_acceptRanges), ("unicode/utf8.first", laid_unicode_utf8_first)], narrowed := true }
def AsmRightUptoSaid : Prop := asmRightUptoRow.holds Tryz.pinned (OpenSpec.upto asmRightSpec)

end Rows
end Go.Proofs.YtlcidkiplidamaaGreatDoor
