/-
  DERIVED. GIVEN WITH THE SEED: THE CARDS: each row of YtlcidkiplidamaaDoorRows.lean that lists a variable, with what it lists TIED to the program's text (the seventh form; the later family's looks); each row that meets fmt, with fmt's text TOLD by the authors' own Lean function (tested against real Go, not proved from fmt's source: count such statements apart). THE CARD IS WHAT COUNTS. Prove the row's statement (the work); the ties are given (YtlcidkiplidamaaDoorTie.lean); close each card by the builder's one call (the guide's Derived/Test/ToyasCard.lean, 'card_holds'). Laid BY PROGRAM, IN A SANDBOX (cutbox-door.mjs). By AI agents, Wed Nov 11 2026. No macro, syntax, notation, axiom, sorry.
-/
import Derived.Test.YtlcidkiplidamaaDoorRows
import GoSem.ClaimSeven
namespace Go.Proofs.YtlcidkiplidamaaDoor
namespace Rows

/-- THE TIED CARD OF 'turnstilelaw8.AsmLong'. -/
def asmLongCard : Claim7 := { stood := { row := asmLongRow, standIns := [], harness := (true, "93208a7901487f01c8b61ef091dc2dec2957a7c59c9eb3fa8d23c04503f64f56"), looks := true }, kinds := [], alts := [], laidByText := true, laidKinds := [.data, .pinned], laidTests := true, laidLooks := .later }
def AsmLongCardSaid : Prop := Claim7.holds Tryd.pinned (.plain (OpenSpec.ofChange asmLongSpec)) asmLongCard

/-- THE TIED CARD OF 'turnstilelaw8.AsmOnce'. -/
def asmOnceCard : Claim7 := { stood := { row := asmOnceRow, standIns := [], harness := (true, "93208a7901487f01c8b61ef091dc2dec2957a7c59c9eb3fa8d23c04503f64f56"), looks := true }, kinds := [], alts := [], laidByText := true, laidKinds := [.data, .pinned], laidTests := true, laidLooks := .later }
def AsmOnceCardSaid : Prop := Claim7.holds Tryd.pinned (.plain (OpenSpec.ofChange asmOnceSpec)) asmOnceCard

/-- THE TIED CARD OF 'turnstilelaw8.AsmFlags'. -/
def asmFlagsCard : Claim7 := { stood := { row := asmFlagsRow, standIns := [], harness := (true, "93208a7901487f01c8b61ef091dc2dec2957a7c59c9eb3fa8d23c04503f64f56"), looks := true }, kinds := [], alts := [], laidByText := true, laidKinds := [.data, .pinned], laidTests := true, laidLooks := .later }
def AsmFlagsCardSaid : Prop := Claim7.holds Tryd.pinned (.plain (OpenSpec.ofChange asmFlagsSpec)) asmFlagsCard

/-- THE SECOND FORM's CARD OF 'turnstilelaw8.AsmLong'. -/
def asmLongUptoCard : Claim7 := { stood := { row := asmLongUptoRow, standIns := [], harness := (true, "93208a7901487f01c8b61ef091dc2dec2957a7c59c9eb3fa8d23c04503f64f56"), looks := true }, kinds := [], alts := [], laidByText := true, laidKinds := [.data, .pinned], laidTests := true, laidLooks := .later }
def AsmLongUptoCardSaid : Prop := Claim7.holds Tryd.pinned (.plain (OpenSpec.upto asmLongSpec)) asmLongUptoCard

/-- THE SECOND FORM's CARD OF 'turnstilelaw8.AsmOnce'. -/
def asmOnceUptoCard : Claim7 := { stood := { row := asmOnceUptoRow, standIns := [], harness := (true, "93208a7901487f01c8b61ef091dc2dec2957a7c59c9eb3fa8d23c04503f64f56"), looks := true }, kinds := [], alts := [], laidByText := true, laidKinds := [.data, .pinned], laidTests := true, laidLooks := .later }
def AsmOnceUptoCardSaid : Prop := Claim7.holds Tryd.pinned (.plain (OpenSpec.upto asmOnceSpec)) asmOnceUptoCard

/-- THE SECOND FORM's CARD OF 'turnstilelaw8.AsmFlags'. -/
def asmFlagsUptoCard : Claim7 := { stood := { row := asmFlagsUptoRow, standIns := [], harness := (true, "93208a7901487f01c8b61ef091dc2dec2957a7c59c9eb3fa8d23c04503f64f56"), looks := true }, kinds := [], alts := [], laidByText := true, laidKinds := [.data, .pinned], laidTests := true, laidLooks := .later }
def AsmFlagsUptoCardSaid : Prop := Claim7.holds Tryd.pinned (.plain (OpenSpec.upto asmFlagsSpec)) asmFlagsUptoCard
end Rows
end Go.Proofs.YtlcidkiplidamaaDoor
