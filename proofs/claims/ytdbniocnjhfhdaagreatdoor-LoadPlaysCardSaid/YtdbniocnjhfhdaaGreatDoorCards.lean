/-
  DERIVED. GIVEN WITH THE SEED: THE CARDS: each row of YtdbniocnjhfhdaaGreatDoorRows.lean that lists a variable, with what it lists TIED to the program's text (the seventh form; the later family's looks); each row that meets fmt, with fmt's text TOLD by the authors' own Lean function (tested against real Go, not proved from fmt's source: count such statements apart). THE CARD IS WHAT COUNTS. Prove the row's statement (the work); the ties are given (YtdbniocnjhfhdaaGreatDoorTie.lean); close each card by the builder's one call (the guide's Derived/Test/ToyasCard.lean, 'card_holds'). Laid BY PROGRAM, IN A SANDBOX (cutbox-door.mjs). By AI agents, Wed Nov 11 2026. No macro, syntax, notation, axiom, sorry.
-/
import Derived.Test.YtdbniocnjhfhdaaGreatDoorRows
import GoSem.ClaimSeven
namespace Go.Proofs.YtdbniocnjhfhdaaGreatDoor
namespace Rows

/-- THE TIED CARD OF 'turnstilelaw10.LoadOrder'. -/
def loadOrderCard : Claim7 := { stood := { row := loadOrderRow, standIns := [], harness := (true, "7170cad1fcce2386491946e9dd719369659763140dbb7e9311a234977865a815"), looks := true }, kinds := [], alts := [], laidByText := true, laidKinds := [.handle], laidTests := true, laidLooks := .later }
def LoadOrderCardSaid : Prop := Claim7.holds Tryz.pinned (.plain (OpenSpec.ofChange loadOrderSpec)) loadOrderCard

/-- THE TIED CARD OF 'turnstilelaw10.LoadRound'. -/
def loadRoundCard : Claim7 := { stood := { row := loadRoundRow, standIns := [], harness := (true, "7170cad1fcce2386491946e9dd719369659763140dbb7e9311a234977865a815"), looks := true }, kinds := [], alts := [], laidByText := true, laidKinds := [.handle], laidTests := true, laidLooks := .later }
def LoadRoundCardSaid : Prop := Claim7.holds Tryz.pinned (.plain (OpenSpec.ofChange loadRoundSpec)) loadRoundCard

/-- THE TIED CARD OF 'turnstilelaw10.LoadMany'. -/
def loadManyCard : Claim7 := { stood := { row := loadManyRow, standIns := [], harness := (true, "7170cad1fcce2386491946e9dd719369659763140dbb7e9311a234977865a815"), looks := true }, kinds := [], alts := [], laidByText := true, laidKinds := [.handle], laidTests := true, laidLooks := .later }
def LoadManyCardSaid : Prop := Claim7.holds Tryz.pinned (.plain (OpenSpec.ofChange loadManySpec)) loadManyCard

/-- THE TIED CARD OF 'turnstilelaw10.LoadLate'. -/
def loadLateCard : Claim7 := { stood := { row := loadLateRow, standIns := [], harness := (true, "7170cad1fcce2386491946e9dd719369659763140dbb7e9311a234977865a815"), looks := true }, kinds := [], alts := [], laidByText := true, laidKinds := [.handle], laidTests := true, laidLooks := .later }
def LoadLateCardSaid : Prop := Claim7.holds Tryz.pinned (.plain (OpenSpec.ofChange loadLateSpec)) loadLateCard

/-- THE TIED CARD OF 'turnstilelaw10.LoadTwo'. -/
def loadTwoCard : Claim7 := { stood := { row := loadTwoRow, standIns := [], harness := (true, "7170cad1fcce2386491946e9dd719369659763140dbb7e9311a234977865a815"), looks := true }, kinds := [], alts := [], laidByText := true, laidKinds := [.handle], laidTests := true, laidLooks := .later }
def LoadTwoCardSaid : Prop := Claim7.holds Tryz.pinned (.plain (OpenSpec.ofChange loadTwoSpec)) loadTwoCard

/-- THE TIED CARD OF 'turnstilelaw10.LoadPlays'. -/
def loadPlaysCard : Claim7 := { stood := { row := loadPlaysRow, standIns := [], harness := (true, "7170cad1fcce2386491946e9dd719369659763140dbb7e9311a234977865a815"), looks := true }, kinds := [], alts := [], laidByText := true, laidKinds := [.handle], laidTests := true, laidLooks := .later }
def LoadPlaysCardSaid : Prop := Claim7.holds Tryz.pinned (.plain (OpenSpec.ofChange loadPlaysSpec)) loadPlaysCard

/-- THE TIED CARD OF 'turnstilelaw10.LoadNames'. -/
def loadNamesCard : Claim7 := { stood := { row := loadNamesRow, standIns := [], harness := (true, "7170cad1fcce2386491946e9dd719369659763140dbb7e9311a234977865a815"), looks := true }, kinds := [], alts := [], laidByText := true, laidKinds := [.handle], laidTests := true, laidLooks := .later }
def LoadNamesCardSaid : Prop := Claim7.holds Tryz.pinned (.plain (OpenSpec.ofChange loadNamesSpec)) loadNamesCard

/-- THE SECOND FORM's CARD OF 'turnstilelaw10.LoadOrder'. -/
def loadOrderUptoCard : Claim7 := { stood := { row := loadOrderUptoRow, standIns := [], harness := (true, "7170cad1fcce2386491946e9dd719369659763140dbb7e9311a234977865a815"), looks := true }, kinds := [], alts := [], laidByText := true, laidKinds := [.handle], laidTests := true, laidLooks := .later }
def LoadOrderUptoCardSaid : Prop := Claim7.holds Tryz.pinned (.plain (OpenSpec.upto loadOrderSpec)) loadOrderUptoCard

/-- THE SECOND FORM's CARD OF 'turnstilelaw10.LoadRound'. -/
def loadRoundUptoCard : Claim7 := { stood := { row := loadRoundUptoRow, standIns := [], harness := (true, "7170cad1fcce2386491946e9dd719369659763140dbb7e9311a234977865a815"), looks := true }, kinds := [], alts := [], laidByText := true, laidKinds := [.handle], laidTests := true, laidLooks := .later }
def LoadRoundUptoCardSaid : Prop := Claim7.holds Tryz.pinned (.plain (OpenSpec.upto loadRoundSpec)) loadRoundUptoCard

/-- THE SECOND FORM's CARD OF 'turnstilelaw10.LoadMany'. -/
def loadManyUptoCard : Claim7 := { stood := { row := loadManyUptoRow, standIns := [], harness := (true, "7170cad1fcce2386491946e9dd719369659763140dbb7e9311a234977865a815"), looks := true }, kinds := [], alts := [], laidByText := true, laidKinds := [.handle], laidTests := true, laidLooks := .later }
def LoadManyUptoCardSaid : Prop := Claim7.holds Tryz.pinned (.plain (OpenSpec.upto loadManySpec)) loadManyUptoCard

/-- THE SECOND FORM's CARD OF 'turnstilelaw10.LoadLate'. -/
def loadLateUptoCard : Claim7 := { stood := { row := loadLateUptoRow, standIns := [], harness := (true, "7170cad1fcce2386491946e9dd719369659763140dbb7e9311a234977865a815"), looks := true }, kinds := [], alts := [], laidByText := true, laidKinds := [.handle], laidTests := true, laidLooks := .later }
def LoadLateUptoCardSaid : Prop := Claim7.holds Tryz.pinned (.plain (OpenSpec.upto loadLateSpec)) loadLateUptoCard

/-- THE SECOND FORM's CARD OF 'turnstilelaw10.LoadTwo'. -/
def loadTwoUptoCard : Claim7 := { stood := { row := loadTwoUptoRow, standIns := [], harness := (true, "7170cad1fcce2386491946e9dd719369659763140dbb7e9311a234977865a815"), looks := true }, kinds := [], alts := [], laidByText := true, laidKinds := [.handle], laidTests := true, laidLooks := .later }
def LoadTwoUptoCardSaid : Prop := Claim7.holds Tryz.pinned (.plain (OpenSpec.upto loadTwoSpec)) loadTwoUptoCard

/-- THE SECOND FORM's CARD OF 'turnstilelaw10.LoadPlays'. -/
def loadPlaysUptoCard : Claim7 := { stood := { row := loadPlaysUptoRow, standIns := [], harness := (true, "7170cad1fcce2386491946e9dd719369659763140dbb7e9311a234977865a815"), looks := true }, kinds := [], alts := [], laidByText := true, laidKinds := [.handle], laidTests := true, laidLooks := .later }
def LoadPlaysUptoCardSaid : Prop := Claim7.holds Tryz.pinned (.plain (OpenSpec.upto loadPlaysSpec)) loadPlaysUptoCard

/-- THE SECOND FORM's CARD OF 'turnstilelaw10.LoadNames'. -/
def loadNamesUptoCard : Claim7 := { stood := { row := loadNamesUptoRow, standIns := [], harness := (true, "7170cad1fcce2386491946e9dd719369659763140dbb7e9311a234977865a815"), looks := true }, kinds := [], alts := [], laidByText := true, laidKinds := [.handle], laidTests := true, laidLooks := .later }
def LoadNamesUptoCardSaid : Prop := Claim7.holds Tryz.pinned (.plain (OpenSpec.upto loadNamesSpec)) loadNamesUptoCard
end Rows
end Go.Proofs.YtdbniocnjhfhdaaGreatDoor
