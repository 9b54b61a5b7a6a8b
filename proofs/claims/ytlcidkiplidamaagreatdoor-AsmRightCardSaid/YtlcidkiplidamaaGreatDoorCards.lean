/-
  DERIVED. GIVEN WITH THE SEED: THE CARDS: each row of YtlcidkiplidamaaGreatDoorRows.lean that lists a variable, with what it lists TIED to the program's text (the seventh form; the later family's looks); each row that meets fmt, with fmt's text TOLD by the authors' own Lean function (tested against real Go, not proved from fmt's source: count such statements apart). THE CARD IS WHAT COUNTS. Prove the row's statement (the work); the ties are given (YtlcidkiplidamaaGreatDoorTie.lean); close each card by the builder's one call (the guide's Derived/Test/ToyasCard.lean, 'card_holds'). Laid BY PROGRAM, IN A SANDBOX (cutbox-door.mjs). By AI agents, Wed Nov 11 2026. No macro, syntax, notation, axiom, sorry.
-/
import Derived.Test.YtlcidkiplidamaaGreatDoorRows
import GoSem.ClaimSeven
namespace Go.Proofs.YtlcidkiplidamaaGreatDoor
namespace Rows

/-- THE TIED CARD OF 'turnstilelaw8.AsmReads'. -/
def asmReadsCard : Claim7 := { stood := { row := asmReadsRow, standIns := [], harness := (true, "6f9ee0bd0c9299783c6fd3a1607f27dc4045537abddb620d34d1506aaf447853"), looks := true }, kinds := [], alts := [], laidByText := true, laidKinds := [.data, .pinned], laidTests := true, laidLooks := .later }
def AsmReadsCardSaid : Prop := Claim7.holds Tryz.pinned (.plain (OpenSpec.ofChange asmReadsSpec)) asmReadsCard

/-- THE TIED CARD OF 'turnstilelaw8.AsmBlank'. -/
def asmBlankCard : Claim7 := { stood := { row := asmBlankRow, standIns := [], harness := (true, "6f9ee0bd0c9299783c6fd3a1607f27dc4045537abddb620d34d1506aaf447853"), looks := true }, kinds := [], alts := [], laidByText := true, laidKinds := [.data, .pinned], laidTests := true, laidLooks := .later }
def AsmBlankCardSaid : Prop := Claim7.holds Tryz.pinned (.plain (OpenSpec.ofChange asmBlankSpec)) asmBlankCard

/-- THE TIED CARD OF 'turnstilelaw8.AsmPooled'. -/
def asmPooledCard : Claim7 := { stood := { row := asmPooledRow, standIns := [], harness := (true, "6f9ee0bd0c9299783c6fd3a1607f27dc4045537abddb620d34d1506aaf447853"), looks := true }, kinds := [], alts := [], laidByText := true, laidKinds := [.data, .pinned], laidTests := true, laidLooks := .later }
def AsmPooledCardSaid : Prop := Claim7.holds Tryz.pinned (.plain (OpenSpec.ofChange asmPooledSpec)) asmPooledCard

/-- THE TIED CARD OF 'turnstilelaw8.AsmLabels'. -/
def asmLabelsCard : Claim7 := { stood := { row := asmLabelsRow, standIns := [], harness := (true, "6f9ee0bd0c9299783c6fd3a1607f27dc4045537abddb620d34d1506aaf447853"), looks := true }, kinds := [], alts := [], laidByText := true, laidKinds := [.data, .pinned], laidTests := true, laidLooks := .later }
def AsmLabelsCardSaid : Prop := Claim7.holds Tryz.pinned (.plain (OpenSpec.ofChange asmLabelsSpec)) asmLabelsCard

/-- THE TIED CARD OF 'turnstilelaw8.AsmRight'. -/
def asmRightCard : Claim7 := { stood := { row := asmRightRow, standIns := [], harness := (true, "6f9ee0bd0c9299783c6fd3a1607f27dc4045537abddb620d34d1506aaf447853"), looks := true }, kinds := [], alts := [], laidByText := true, laidKinds := [.data, .pinned], laidTests := true, laidLooks := .later }
def AsmRightCardSaid : Prop := Claim7.holds Tryz.pinned (.plain (OpenSpec.ofChange asmRightSpec)) asmRightCard

/-- THE SECOND FORM's CARD OF 'turnstilelaw8.AsmReads'. -/
def asmReadsUptoCard : Claim7 := { stood := { row := asmReadsUptoRow, standIns := [], harness := (true, "6f9ee0bd0c9299783c6fd3a1607f27dc4045537abddb620d34d1506aaf447853"), looks := true }, kinds := [], alts := [], laidByText := true, laidKinds := [.data, .pinned], laidTests := true, laidLooks := .later }
def AsmReadsUptoCardSaid : Prop := Claim7.holds Tryz.pinned (.plain (OpenSpec.upto asmReadsSpec)) asmReadsUptoCard

/-- THE SECOND FORM's CARD OF 'turnstilelaw8.AsmBlank'. -/
def asmBlankUptoCard : Claim7 := { stood := { row := asmBlankUptoRow, standIns := [], harness := (true, "6f9ee0bd0c9299783c6fd3a1607f27dc4045537abddb620d34d1506aaf447853"), looks := true }, kinds := [], alts := [], laidByText := true, laidKinds := [.data, .pinned], laidTests := true, laidLooks := .later }
def AsmBlankUptoCardSaid : Prop := Claim7.holds Tryz.pinned (.plain (OpenSpec.upto asmBlankSpec)) asmBlankUptoCard

/-- THE SECOND FORM's CARD OF 'turnstilelaw8.AsmPooled'. -/
def asmPooledUptoCard : Claim7 := { stood := { row := asmPooledUptoRow, standIns := [], harness := (true, "6f9ee0bd0c9299783c6fd3a1607f27dc4045537abddb620d34d1506aaf447853"), looks := true }, kinds := [], alts := [], laidByText := true, laidKinds := [.data, .pinned], laidTests := true, laidLooks := .later }
def AsmPooledUptoCardSaid : Prop := Claim7.holds Tryz.pinned (.plain (OpenSpec.upto asmPooledSpec)) asmPooledUptoCard

/-- THE SECOND FORM's CARD OF 'turnstilelaw8.AsmLabels'. -/
def asmLabelsUptoCard : Claim7 := { stood := { row := asmLabelsUptoRow, standIns := [], harness := (true, "6f9ee0bd0c9299783c6fd3a1607f27dc4045537abddb620d34d1506aaf447853"), looks := true }, kinds := [], alts := [], laidByText := true, laidKinds := [.data, .pinned], laidTests := true, laidLooks := .later }
def AsmLabelsUptoCardSaid : Prop := Claim7.holds Tryz.pinned (.plain (OpenSpec.upto asmLabelsSpec)) asmLabelsUptoCard

/-- THE SECOND FORM's CARD OF 'turnstilelaw8.AsmRight'. -/
def asmRightUptoCard : Claim7 := { stood := { row := asmRightUptoRow, standIns := [], harness := (true, "6f9ee0bd0c9299783c6fd3a1607f27dc4045537abddb620d34d1506aaf447853"), looks := true }, kinds := [], alts := [], laidByText := true, laidKinds := [.data, .pinned], laidTests := true, laidLooks := .later }
def AsmRightUptoCardSaid : Prop := Claim7.holds Tryz.pinned (.plain (OpenSpec.upto asmRightSpec)) asmRightUptoCard
end Rows
end Go.Proofs.YtlcidkiplidamaaGreatDoor
