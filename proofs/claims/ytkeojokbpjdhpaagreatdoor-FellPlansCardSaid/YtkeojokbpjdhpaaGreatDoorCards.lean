/-
  DERIVED. GIVEN WITH THE SEED: THE CARDS: each row of YtkeojokbpjdhpaaGreatDoorRows.lean that lists a variable, with what it lists TIED to the program's text (the seventh form; the later family's looks); each row that meets fmt, with fmt's text TOLD by the authors' own Lean function (tested against real Go, not proved from fmt's source: count such statements apart). THE CARD IS WHAT COUNTS. Prove the row's statement (the work); the ties are given (YtkeojokbpjdhpaaGreatDoorTie.lean); close each card by the builder's one call (the guide's Derived/Test/ToyasCard.lean, 'card_holds'). Laid BY PROGRAM, IN A SANDBOX (cutbox-door.mjs). By AI agents, Wed Nov 11 2026. No macro, syntax, notation, axiom, sorry.
-/
import Derived.Test.YtkeojokbpjdhpaaGreatDoorRows
import GoSem.ClaimSeven
namespace Go.Proofs.YtkeojokbpjdhpaaGreatDoor
namespace Rows

/-- THE TIED CARD OF 'steeplejacklaw06.FellPlans'. -/
def fellPlansCard : Claim7 := { stood := { row := fellPlansRow, standIns := [], harness := (true, "ab58faff307adfeea9a1c9957144d2d4651a0e9d55af9cd39ee74849de9c03f6"), looks := false }, kinds := [], alts := [], laidByText := true, laidKinds := [.data], laidTests := true, laidLooks := .later }
def FellPlansCardSaid : Prop := Claim7.holds Tryz.pinned (.plain (OpenSpec.ofChange fellPlansSpec)) fellPlansCard

/-- THE SECOND FORM's CARD OF 'steeplejacklaw06.FellPlans'. -/
def fellPlansUptoCard : Claim7 := { stood := { row := fellPlansUptoRow, standIns := [], harness := (true, "ab58faff307adfeea9a1c9957144d2d4651a0e9d55af9cd39ee74849de9c03f6"), looks := false }, kinds := [], alts := [], laidByText := true, laidKinds := [.data], laidTests := true, laidLooks := .later }
def FellPlansUptoCardSaid : Prop := Claim7.holds Tryz.pinned (.plain (OpenSpec.upto fellPlansSpec)) fellPlansUptoCard
end Rows
end Go.Proofs.YtkeojokbpjdhpaaGreatDoor
