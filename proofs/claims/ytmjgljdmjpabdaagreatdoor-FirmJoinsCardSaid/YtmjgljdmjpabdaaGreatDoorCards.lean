/-
  DERIVED. GIVEN WITH THE SEED: THE CARDS: each row of YtmjgljdmjpabdaaGreatDoorRows.lean that lists a variable, with what it lists TIED to the program's text (the seventh form; the later family's looks); each row that meets fmt, with fmt's text TOLD by the authors' own Lean function (tested against real Go, not proved from fmt's source: count such statements apart). THE CARD IS WHAT COUNTS. Prove the row's statement (the work); the ties are given (YtmjgljdmjpabdaaGreatDoorTie.lean); close each card by the builder's one call (the guide's Derived/Test/ToyasCard.lean, 'card_holds'). Laid BY PROGRAM, IN A SANDBOX (cutbox-door.mjs). By AI agents, Wed Nov 11 2026. No macro, syntax, notation, axiom, sorry.
-/
import Derived.Test.YtmjgljdmjpabdaaGreatDoorRows
import GoSem.ClaimSeven
namespace Go.Proofs.YtmjgljdmjpabdaaGreatDoor
namespace Rows

/-- THE TIED CARD OF 'steeplejacklaw10.FirmJoins'. -/
def firmJoinsCard : Claim7 := { stood := { row := firmJoinsRow, standIns := [], harness := (true, "a6c54a08782b66771d1e3c7f8a7ed283a95e29eb5274b162556a0a08fd4eac72"), looks := true }, kinds := [], alts := [], laidByText := true, laidKinds := [.data, .data, .data, .data, .sentinel, .sentinel, .pinned], laidTests := true, laidLooks := .later }
def FirmJoinsCardSaid : Prop := Claim7.holds Tryz.pinned (.plain (OpenSpec.ofChange firmJoinsSpec)) firmJoinsCard

/-- THE TIED CARD OF 'steeplejacklaw10.FirmNothing'. -/
def firmNothingCard : Claim7 := { stood := { row := firmNothingRow, standIns := [], harness := (true, "a6c54a08782b66771d1e3c7f8a7ed283a95e29eb5274b162556a0a08fd4eac72"), looks := true }, kinds := [], alts := [], laidByText := true, laidKinds := [.data, .data, .data, .data, .sentinel, .sentinel, .sentinel, .pinned], laidTests := true, laidLooks := .later }
def FirmNothingCardSaid : Prop := Claim7.holds Tryz.pinned (.plain (OpenSpec.ofChange firmNothingSpec)) firmNothingCard

/-- THE SECOND FORM's CARD OF 'steeplejacklaw10.FirmJoins'. -/
def firmJoinsUptoCard : Claim7 := { stood := { row := firmJoinsUptoRow, standIns := [], harness := (true, "a6c54a08782b66771d1e3c7f8a7ed283a95e29eb5274b162556a0a08fd4eac72"), looks := true }, kinds := [], alts := [], laidByText := true, laidKinds := [.data, .data, .data, .data, .sentinel, .sentinel, .pinned], laidTests := true, laidLooks := .later }
def FirmJoinsUptoCardSaid : Prop := Claim7.holds Tryz.pinned (.plain (OpenSpec.upto firmJoinsSpec)) firmJoinsUptoCard

/-- THE SECOND FORM's CARD OF 'steeplejacklaw10.FirmNothing'. -/
def firmNothingUptoCard : Claim7 := { stood := { row := firmNothingUptoRow, standIns := [], harness := (true, "a6c54a08782b66771d1e3c7f8a7ed283a95e29eb5274b162556a0a08fd4eac72"), looks := true }, kinds := [], alts := [], laidByText := true, laidKinds := [.data, .data, .data, .data, .sentinel, .sentinel, .sentinel, .pinned], laidTests := true, laidLooks := .later }
def FirmNothingUptoCardSaid : Prop := Claim7.holds Tryz.pinned (.plain (OpenSpec.upto firmNothingSpec)) firmNothingUptoCard
end Rows
end Go.Proofs.YtmjgljdmjpabdaaGreatDoor
