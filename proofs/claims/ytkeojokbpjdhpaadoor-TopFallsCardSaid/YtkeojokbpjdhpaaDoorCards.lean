/-
  DERIVED. GIVEN WITH THE SEED: THE CARDS: each row of YtkeojokbpjdhpaaDoorRows.lean that lists a variable, with what it lists TIED to the program's text (the seventh form; the later family's looks); each row that meets fmt, with fmt's text TOLD by the authors' own Lean function (tested against real Go, not proved from fmt's source: count such statements apart). THE CARD IS WHAT COUNTS. Prove the row's statement (the work); the ties are given (YtkeojokbpjdhpaaDoorTie.lean); close each card by the builder's one call (the guide's Derived/Test/ToyasCard.lean, 'card_holds'). Laid BY PROGRAM, IN A SANDBOX (cutbox-door.mjs). By AI agents, Wed Nov 11 2026. No macro, syntax, notation, axiom, sorry.
-/
import Derived.Test.YtkeojokbpjdhpaaDoorRows
import GoSem.ClaimSeven
namespace Go.Proofs.YtkeojokbpjdhpaaDoor
namespace Rows

/-- THE TIED CARD OF 'steeplejacklaw06.FellDeeds'. -/
def fellDeedsCard : Claim7 := { stood := { row := fellDeedsRow, standIns := [], harness := (true, "a57cea27642da286b3d9997b737440e97a37df083a59e7252340de0faa6167fe"), looks := false }, kinds := [], alts := [], laidByText := true, laidKinds := [.data], laidTests := true, laidLooks := .later }
def FellDeedsCardSaid : Prop := Claim7.holds Tryd.pinned (.plain (OpenSpec.ofChange fellDeedsSpec)) fellDeedsCard

/-- THE TIED CARD OF 'steeplejacklaw06.FellNeeds'. -/
def fellNeedsCard : Claim7 := { stood := { row := fellNeedsRow, standIns := [], harness := (true, "a57cea27642da286b3d9997b737440e97a37df083a59e7252340de0faa6167fe"), looks := false }, kinds := [], alts := [], laidByText := true, laidKinds := [.data], laidTests := true, laidLooks := .later }
def FellNeedsCardSaid : Prop := Claim7.holds Tryd.pinned (.plain (OpenSpec.ofChange fellNeedsSpec)) fellNeedsCard

/-- THE TIED CARD OF 'steeplejacktop.TopFalls'. -/
def topFallsCard : Claim7 := { stood := { row := topFallsRow, standIns := [], harness := (true, "a57cea27642da286b3d9997b737440e97a37df083a59e7252340de0faa6167fe"), looks := false }, kinds := [], alts := [], laidByText := true, laidKinds := [.data], laidTests := true, laidLooks := .later }
def TopFallsCardSaid : Prop := Claim7.holds Tryd.pinned (.plain (OpenSpec.ofChange topFallsSpec)) topFallsCard

/-- THE SECOND FORM's CARD OF 'steeplejacklaw06.FellDeeds'. -/
def fellDeedsUptoCard : Claim7 := { stood := { row := fellDeedsUptoRow, standIns := [], harness := (true, "a57cea27642da286b3d9997b737440e97a37df083a59e7252340de0faa6167fe"), looks := false }, kinds := [], alts := [], laidByText := true, laidKinds := [.data], laidTests := true, laidLooks := .later }
def FellDeedsUptoCardSaid : Prop := Claim7.holds Tryd.pinned (.plain (OpenSpec.upto fellDeedsSpec)) fellDeedsUptoCard

/-- THE SECOND FORM's CARD OF 'steeplejacklaw06.FellNeeds'. -/
def fellNeedsUptoCard : Claim7 := { stood := { row := fellNeedsUptoRow, standIns := [], harness := (true, "a57cea27642da286b3d9997b737440e97a37df083a59e7252340de0faa6167fe"), looks := false }, kinds := [], alts := [], laidByText := true, laidKinds := [.data], laidTests := true, laidLooks := .later }
def FellNeedsUptoCardSaid : Prop := Claim7.holds Tryd.pinned (.plain (OpenSpec.upto fellNeedsSpec)) fellNeedsUptoCard

/-- THE SECOND FORM's CARD OF 'steeplejacktop.TopFalls'. -/
def topFallsUptoCard : Claim7 := { stood := { row := topFallsUptoRow, standIns := [], harness := (true, "a57cea27642da286b3d9997b737440e97a37df083a59e7252340de0faa6167fe"), looks := false }, kinds := [], alts := [], laidByText := true, laidKinds := [.data], laidTests := true, laidLooks := .later }
def TopFallsUptoCardSaid : Prop := Claim7.holds Tryd.pinned (.plain (OpenSpec.upto topFallsSpec)) topFallsUptoCard
end Rows
end Go.Proofs.YtkeojokbpjdhpaaDoor
