/-
  DERIVED. GIVEN WITH THE SEED: THE CARDS: each row of YtjkkfcghkeoedaaGreatDoorRows.lean that lists a variable, with what it lists TIED to the program's text (the seventh form; the later family's looks); each row that meets fmt, with fmt's text TOLD by the authors' own Lean function (tested against real Go, not proved from fmt's source: count such statements apart). THE CARD IS WHAT COUNTS. Prove the row's statement (the work); the ties are given (YtjkkfcghkeoedaaGreatDoorTie.lean); close each card by the builder's one call (the guide's Derived/Test/ToyasCard.lean, 'card_holds'). Laid BY PROGRAM, IN A SANDBOX (cutbox-door.mjs). By AI agents, Wed Nov 11 2026. No macro, syntax, notation, axiom, sorry.
-/
import Derived.Test.YtjkkfcghkeoedaaGreatDoorRows
import GoSem.ClaimSeven
namespace Go.Proofs.YtjkkfcghkeoedaaGreatDoor
namespace Rows

/-- THE TIED CARD OF 'steeplejacklaw10.FirmSetups'. -/
def firmSetupsCard : Claim7 := { stood := { row := firmSetupsRow, standIns := [], harness := (true, "e9089e5eef9a680455e35ed52ead7487ac6254642191b90edab964e1947431e7"), looks := true }, kinds := [], alts := [], laidByText := true, laidKinds := [.data, .data, .data, .data, .sentinel, .sentinel, .sentinel, .pinned], laidTests := true, laidLooks := .later }
def FirmSetupsCardSaid : Prop := Claim7.holds Tryz.pinned (.plain (OpenSpec.ofChange firmSetupsSpec)) firmSetupsCard

/-- THE TIED CARD OF 'steeplejacktop.TopGoesOn'. -/
def topGoesOnCard : Claim7 := { stood := { row := topGoesOnRow, standIns := [], harness := (true, "e9089e5eef9a680455e35ed52ead7487ac6254642191b90edab964e1947431e7"), looks := true }, kinds := [], alts := [], laidByText := true, laidKinds := [.data, .data, .data, .data, .sentinel, .sentinel, .sentinel, .pinned], laidTests := true, laidLooks := .later }
def TopGoesOnCardSaid : Prop := Claim7.holds Tryz.pinned (.plain (OpenSpec.ofChange topGoesOnSpec)) topGoesOnCard

/-- THE SECOND FORM's CARD OF 'steeplejacklaw10.FirmSetups'. -/
def firmSetupsUptoCard : Claim7 := { stood := { row := firmSetupsUptoRow, standIns := [], harness := (true, "e9089e5eef9a680455e35ed52ead7487ac6254642191b90edab964e1947431e7"), looks := true }, kinds := [], alts := [], laidByText := true, laidKinds := [.data, .data, .data, .data, .sentinel, .sentinel, .sentinel, .pinned], laidTests := true, laidLooks := .later }
def FirmSetupsUptoCardSaid : Prop := Claim7.holds Tryz.pinned (.plain (OpenSpec.upto firmSetupsSpec)) firmSetupsUptoCard

/-- THE SECOND FORM's CARD OF 'steeplejacktop.TopGoesOn'. -/
def topGoesOnUptoCard : Claim7 := { stood := { row := topGoesOnUptoRow, standIns := [], harness := (true, "e9089e5eef9a680455e35ed52ead7487ac6254642191b90edab964e1947431e7"), looks := true }, kinds := [], alts := [], laidByText := true, laidKinds := [.data, .data, .data, .data, .sentinel, .sentinel, .sentinel, .pinned], laidTests := true, laidLooks := .later }
def TopGoesOnUptoCardSaid : Prop := Claim7.holds Tryz.pinned (.plain (OpenSpec.upto topGoesOnSpec)) topGoesOnUptoCard
end Rows
end Go.Proofs.YtjkkfcghkeoedaaGreatDoor
