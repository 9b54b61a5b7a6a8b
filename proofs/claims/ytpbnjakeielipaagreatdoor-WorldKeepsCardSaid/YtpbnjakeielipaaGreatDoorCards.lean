/-
  DERIVED. GIVEN WITH THE SEED: THE CARDS: each row of YtpbnjakeielipaaGreatDoorRows.lean that lists a variable, with what it lists TIED to the program's text (the seventh form; the later family's looks); each row that meets fmt, with fmt's text TOLD by the authors' own Lean function (tested against real Go, not proved from fmt's source: count such statements apart). THE CARD IS WHAT COUNTS. Prove the row's statement (the work); the ties are given (YtpbnjakeielipaaGreatDoorTie.lean); close each card by the builder's one call (the guide's Derived/Test/ToyasCard.lean, 'card_holds'). Laid BY PROGRAM, IN A SANDBOX (cutbox-door.mjs). By AI agents, Wed Nov 11 2026. No macro, syntax, notation, axiom, sorry.
-/
import Derived.Test.YtpbnjakeielipaaGreatDoorRows
import GoSem.ClaimSeven
namespace Go.Proofs.YtpbnjakeielipaaGreatDoor
namespace Rows

/-- THE TIED CARD OF 'turnstilelaw19.WorldKeeps'. -/
def worldKeepsCard : Claim7 := { stood := { row := worldKeepsRow, standIns := [], harness := (true, "61216477508533daabe84c0d4b9f4c1a451523fe5b94c1c309bd514a7f78e9e8"), looks := true }, kinds := [], alts := [], laidByText := true, laidKinds := [.handle], laidTests := true, laidLooks := .later }
def WorldKeepsCardSaid : Prop := Claim7.holds Tryz.pinned (.plain (OpenSpec.ofChange worldKeepsSpec)) worldKeepsCard

/-- THE SECOND FORM's CARD OF 'turnstilelaw19.WorldKeeps'. -/
def worldKeepsUptoCard : Claim7 := { stood := { row := worldKeepsUptoRow, standIns := [], harness := (true, "61216477508533daabe84c0d4b9f4c1a451523fe5b94c1c309bd514a7f78e9e8"), looks := true }, kinds := [], alts := [], laidByText := true, laidKinds := [.handle], laidTests := true, laidLooks := .later }
def WorldKeepsUptoCardSaid : Prop := Claim7.holds Tryz.pinned (.plain (OpenSpec.upto worldKeepsSpec)) worldKeepsUptoCard
end Rows
end Go.Proofs.YtpbnjakeielipaaGreatDoor
