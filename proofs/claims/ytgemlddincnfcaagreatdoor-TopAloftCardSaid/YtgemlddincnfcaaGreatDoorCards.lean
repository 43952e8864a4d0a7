/-
  DERIVED. GIVEN WITH THE SEED: THE CARDS: each row of YtgemlddincnfcaaGreatDoorRows.lean that lists a variable, with what it lists TIED to the program's text (the seventh form; the later family's looks); each row that meets fmt, with fmt's text TOLD by the authors' own Lean function (tested against real Go, not proved from fmt's source: count such statements apart). THE CARD IS WHAT COUNTS. Prove the row's statement (the work); the ties are given (YtgemlddincnfcaaGreatDoorTie.lean); close each card by the builder's one call (the guide's Derived/Test/ToyasCard.lean, 'card_holds'). Laid BY PROGRAM, IN A SANDBOX (cutbox-door.mjs). By AI agents, Wed Nov 11 2026. No macro, syntax, notation, axiom, sorry.
-/
import Derived.Test.YtgemlddincnfcaaGreatDoorRows
import GoSem.ClaimSeven
namespace Go.Proofs.YtgemlddincnfcaaGreatDoor
namespace Rows

/-- THE TIED CARD OF 'steeplejacklaw10.FirmHolds'. -/
def firmHoldsCard : Claim7 := { stood := { row := firmHoldsRow, standIns := [], harness := (true, "88acf1750ace8782d3fb60b4a595bcd3a266a58c5b459dffb09f2450ea7c5b89"), looks := true }, kinds := [], alts := [], laidByText := true, laidKinds := [.data, .data, .data, .data, .sentinel, .sentinel, .pinned], laidTests := true, laidLooks := .later }
def FirmHoldsCardSaid : Prop := Claim7.holds Tryz.pinned (.plain (OpenSpec.ofChange firmHoldsSpec)) firmHoldsCard

/-- THE TIED CARD OF 'steeplejacktop.TopAloft'. -/
def topAloftCard : Claim7 := { stood := { row := topAloftRow, standIns := [], harness := (true, "88acf1750ace8782d3fb60b4a595bcd3a266a58c5b459dffb09f2450ea7c5b89"), looks := true }, kinds := [], alts := [], laidByText := true, laidKinds := [.data, .data, .data, .data, .sentinel, .sentinel, .pinned], laidTests := true, laidLooks := .later }
def TopAloftCardSaid : Prop := Claim7.holds Tryz.pinned (.plain (OpenSpec.ofChange topAloftSpec)) topAloftCard

/-- THE SECOND FORM's CARD OF 'steeplejacklaw10.FirmHolds'. -/
def firmHoldsUptoCard : Claim7 := { stood := { row := firmHoldsUptoRow, standIns := [], harness := (true, "88acf1750ace8782d3fb60b4a595bcd3a266a58c5b459dffb09f2450ea7c5b89"), looks := true }, kinds := [], alts := [], laidByText := true, laidKinds := [.data, .data, .data, .data, .sentinel, .sentinel, .pinned], laidTests := true, laidLooks := .later }
def FirmHoldsUptoCardSaid : Prop := Claim7.holds Tryz.pinned (.plain (OpenSpec.upto firmHoldsSpec)) firmHoldsUptoCard

/-- THE SECOND FORM's CARD OF 'steeplejacktop.TopAloft'. -/
def topAloftUptoCard : Claim7 := { stood := { row := topAloftUptoRow, standIns := [], harness := (true, "88acf1750ace8782d3fb60b4a595bcd3a266a58c5b459dffb09f2450ea7c5b89"), looks := true }, kinds := [], alts := [], laidByText := true, laidKinds := [.data, .data, .data, .data, .sentinel, .sentinel, .pinned], laidTests := true, laidLooks := .later }
def TopAloftUptoCardSaid : Prop := Claim7.holds Tryz.pinned (.plain (OpenSpec.upto topAloftSpec)) topAloftUptoCard
end Rows
end Go.Proofs.YtgemlddincnfcaaGreatDoor
