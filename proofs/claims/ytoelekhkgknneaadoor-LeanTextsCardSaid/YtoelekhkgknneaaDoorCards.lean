/-
  DERIVED. GIVEN WITH THE SEED: THE CARDS: each row of YtoelekhkgknneaaDoorRows.lean that lists a variable, with what it lists TIED to the program's text (the seventh form; the later family's looks); each row that meets fmt, with fmt's text TOLD by the authors' own Lean function (tested against real Go, not proved from fmt's source: count such statements apart). THE CARD IS WHAT COUNTS. Prove the row's statement (the work); the ties are given (YtoelekhkgknneaaDoorTie.lean); close each card by the builder's one call (the guide's Derived/Test/ToyasCard.lean, 'card_holds'). Laid BY PROGRAM, IN A SANDBOX (cutbox-door.mjs). By AI agents, Wed Nov 11 2026. No macro, syntax, notation, axiom, sorry.
-/
import Derived.Test.YtoelekhkgknneaaDoorRows
import GoSem.ClaimSeven
namespace Go.Proofs.YtoelekhkgknneaaDoor
namespace Rows

/-- THE TIED CARD OF 'steeplejacklaw07.GearTexts'. -/
def gearTextsCard : Claim7 := { stood := { row := gearTextsRow, standIns := [], harness := (true, "bc39a8e8376c3fa3f89228f581236d682e94c6a30108eb0cc4fc4ad607c8dcfb"), looks := true }, kinds := [], alts := [], laidByText := true, laidKinds := [.data, .data, .data, .data, .sentinel, .sentinel, .pinned], laidTests := true, laidLooks := .later }
def GearTextsCardSaid : Prop := Claim7.holds Tryd.pinned (.plain (OpenSpec.ofChange gearTextsSpec)) gearTextsCard

/-- THE TIED CARD OF 'steeplejacklaw08.WindTexts'. -/
def windTextsCard : Claim7 := { stood := { row := windTextsRow, standIns := [], harness := (true, "bc39a8e8376c3fa3f89228f581236d682e94c6a30108eb0cc4fc4ad607c8dcfb"), looks := true }, kinds := [], alts := [], laidByText := true, laidKinds := [.data, .data, .data, .data, .sentinel, .sentinel, .pinned], laidTests := true, laidLooks := .later }
def WindTextsCardSaid : Prop := Claim7.holds Tryd.pinned (.plain (OpenSpec.ofChange windTextsSpec)) windTextsCard

/-- THE TIED CARD OF 'steeplejacklaw02.StackTexts'. -/
def stackTextsCard : Claim7 := { stood := { row := stackTextsRow, standIns := [], harness := (true, "bc39a8e8376c3fa3f89228f581236d682e94c6a30108eb0cc4fc4ad607c8dcfb"), looks := true }, kinds := [], alts := [], laidByText := true, laidKinds := [.data, .data, .data, .data, .sentinel, .sentinel, .pinned], laidTests := true, laidLooks := .later }
def StackTextsCardSaid : Prop := Claim7.holds Tryd.pinned (.plain (OpenSpec.ofChange stackTextsSpec)) stackTextsCard

/-- THE TIED CARD OF 'steeplejacklaw01.LeanTexts'. -/
def leanTextsCard : Claim7 := { stood := { row := leanTextsRow, standIns := [], harness := (true, "bc39a8e8376c3fa3f89228f581236d682e94c6a30108eb0cc4fc4ad607c8dcfb"), looks := true }, kinds := [], alts := [], laidByText := true, laidKinds := [.data, .data, .data, .data, .sentinel, .sentinel, .pinned], laidTests := true, laidLooks := .later }
def LeanTextsCardSaid : Prop := Claim7.holds Tryd.pinned (.plain (OpenSpec.ofChange leanTextsSpec)) leanTextsCard

/-- THE SECOND FORM's CARD OF 'steeplejacklaw07.GearTexts'. -/
def gearTextsUptoCard : Claim7 := { stood := { row := gearTextsUptoRow, standIns := [], harness := (true, "bc39a8e8376c3fa3f89228f581236d682e94c6a30108eb0cc4fc4ad607c8dcfb"), looks := true }, kinds := [], alts := [], laidByText := true, laidKinds := [.data, .data, .data, .data, .sentinel, .sentinel, .pinned], laidTests := true, laidLooks := .later }
def GearTextsUptoCardSaid : Prop := Claim7.holds Tryd.pinned (.plain (OpenSpec.upto gearTextsSpec)) gearTextsUptoCard

/-- THE SECOND FORM's CARD OF 'steeplejacklaw08.WindTexts'. -/
def windTextsUptoCard : Claim7 := { stood := { row := windTextsUptoRow, standIns := [], harness := (true, "bc39a8e8376c3fa3f89228f581236d682e94c6a30108eb0cc4fc4ad607c8dcfb"), looks := true }, kinds := [], alts := [], laidByText := true, laidKinds := [.data, .data, .data, .data, .sentinel, .sentinel, .pinned], laidTests := true, laidLooks := .later }
def WindTextsUptoCardSaid : Prop := Claim7.holds Tryd.pinned (.plain (OpenSpec.upto windTextsSpec)) windTextsUptoCard

/-- THE SECOND FORM's CARD OF 'steeplejacklaw02.StackTexts'. -/
def stackTextsUptoCard : Claim7 := { stood := { row := stackTextsUptoRow, standIns := [], harness := (true, "bc39a8e8376c3fa3f89228f581236d682e94c6a30108eb0cc4fc4ad607c8dcfb"), looks := true }, kinds := [], alts := [], laidByText := true, laidKinds := [.data, .data, .data, .data, .sentinel, .sentinel, .pinned], laidTests := true, laidLooks := .later }
def StackTextsUptoCardSaid : Prop := Claim7.holds Tryd.pinned (.plain (OpenSpec.upto stackTextsSpec)) stackTextsUptoCard

/-- THE SECOND FORM's CARD OF 'steeplejacklaw01.LeanTexts'. -/
def leanTextsUptoCard : Claim7 := { stood := { row := leanTextsUptoRow, standIns := [], harness := (true, "bc39a8e8376c3fa3f89228f581236d682e94c6a30108eb0cc4fc4ad607c8dcfb"), looks := true }, kinds := [], alts := [], laidByText := true, laidKinds := [.data, .data, .data, .data, .sentinel, .sentinel, .pinned], laidTests := true, laidLooks := .later }
def LeanTextsUptoCardSaid : Prop := Claim7.holds Tryd.pinned (.plain (OpenSpec.upto leanTextsSpec)) leanTextsUptoCard
end Rows
end Go.Proofs.YtoelekhkgknneaaDoor
