/-
  DERIVED. GIVEN WITH THE SEED: THE CARDS: each row of YthklgkgincebhaaGreatDoorRows.lean that lists a variable, with what it lists TIED to the program's text (the seventh form; the later family's looks); each row that meets fmt, with fmt's text TOLD by the authors' own Lean function (tested against real Go, not proved from fmt's source: count such statements apart). THE CARD IS WHAT COUNTS. Prove the row's statement (the work); the ties are given (YthklgkgincebhaaGreatDoorTie.lean); close each card by the builder's one call (the guide's Derived/Test/ToyasCard.lean, 'card_holds'). Laid BY PROGRAM, IN A SANDBOX (cutbox-door.mjs). By AI agents, Wed Nov 11 2026. No macro, syntax, notation, axiom, sorry.
-/
import Derived.Test.YthklgkgincebhaaGreatDoorRows
import GoSem.ClaimSeven
namespace Go.Proofs.YthklgkgincebhaaGreatDoor
namespace Rows

/-- THE TIED CARD OF 'steeplejacklaw06.FellTexts'. -/
def fellTextsCard : Claim7 := { stood := { row := fellTextsRow, standIns := [], harness := (true, "8069bc6cc0439672e43e35283cdafb0ba8daa3fd8a8135debdda2f2add45a465"), looks := true }, kinds := [], alts := [], laidByText := true, laidKinds := [.data, .data, .data, .data, .sentinel, .sentinel, .pinned], laidTests := true, laidLooks := .later }
def FellTextsCardSaid : Prop := Claim7.holds Tryz.pinned (.plain (OpenSpec.ofChange fellTextsSpec)) fellTextsCard

/-- THE SECOND FORM's CARD OF 'steeplejacklaw06.FellTexts'. -/
def fellTextsUptoCard : Claim7 := { stood := { row := fellTextsUptoRow, standIns := [], harness := (true, "8069bc6cc0439672e43e35283cdafb0ba8daa3fd8a8135debdda2f2add45a465"), looks := true }, kinds := [], alts := [], laidByText := true, laidKinds := [.data, .data, .data, .data, .sentinel, .sentinel, .pinned], laidTests := true, laidLooks := .later }
def FellTextsUptoCardSaid : Prop := Claim7.holds Tryz.pinned (.plain (OpenSpec.upto fellTextsSpec)) fellTextsUptoCard
end Rows
end Go.Proofs.YthklgkgincebhaaGreatDoor
