/- The door's own heap meets what the rows list; from what they list to the table. -/
import Derived.Test.YtkeojokbpjdhpaaGreatDoorRows
import Derived.Test.YtkeojokbpjdhpaaGreatDoorTie
import Derived.Test.YtkeojokbpjdhpaaGreatDoorFgs
import Derived.ProofKit
import Derived.LaidMore
import Derived.OpenShut
import Derived.Stop.Joined
import Derived.SevenTiedAt
import Derived.MakeChecks
import Derived.Lib.LaidTab
set_option linter.unusedSimpArgs false
set_option linter.unusedVariables false
namespace Go.Proofs.YtkeojokbpjdhpaaGreatDoor
open Go.ChangeShapes Go.WideShapes Go.ChangeAt Go.RowKit

def laidL : List (String × DataW Unit) := [("math/bits.deBruijn32tab", Rows.laid_math_bits_deBruijn32tab)]
set_option maxRecDepth 100000 in
theorem door_met (os : Os) (args : Array Value) : laidMetH Tryz.prog laidL ((World.doorLaid Tryz.prog 24 os).forCall (fun _ _ => 0) ⟨#[], args, []⟩).memory :=
  laidMetH_of_parts3 (fuel := 8) (laidMet_of_run' 8 (by kernel_rfl) (by kernel_rfl)) (by kernel_rfl) (by kernel_rfl)
def tabZ : List Int := Lib.deBruijn32tab.map (fun n : Nat => (n : Int))
theorem tab_data : Rows.laid_math_bits_deBruijn32tab = (Lib.tabData .u8 tabZ : DataW Unit) := rfl
theorem tab_get (j : Nat) : tabZ.getD j 0 = ((Lib.deBruijn32tab.getD j 0 : Nat) : Int) := by
  unfold tabZ
  simp only [List.getD_eq_getElem?_getD, List.getElem?_map]
  cases Lib.deBruijn32tab[j]? <;> rfl
/-- what the rows list says that the table lies there -/
theorem of_laid {W : World} (h : laidMetH Tryz.prog laidL W) : Tab W := by
  rw [MakeChecks.laidMetH_plain _ _ _ (by kernel_rfl)] at h
  unfold laidL at h
  rw [tab_data] at h
  have hT := Lib.tabIs_of_head (P := Tryz.prog) (g := 0) (t := 100) (e := 5) (n := 32) (by kernel_rfl) (by kernel_rfl) (by kernel_rfl) (by kernel_rfl) (by kernel_rfl) (by kernel_rfl) h
  intro j hj
  have := hT.cell (g := 0) (by kernel_rfl) j (by unfold tabZ; rw [List.length_map]; exact hj)
  rw [this, tab_get]
end Go.Proofs.YtkeojokbpjdhpaaGreatDoor
