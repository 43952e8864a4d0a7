/- Fell: what is held, by the reference: the loops; spots of props. -/
import Derived.Test.YthklgkgincebhaaGreatDoorFr
import Derived.Test.YthklgkgincebhaaGreatDoorFj
set_option linter.unusedSimpArgs false
set_option linter.unusedVariables false
namespace Go.Proofs.YthklgkgincebhaaGreatDoor
open Go.RowKit

theorem any_step {p : Nat → Bool} {k : Nat} (h : (List.range k).any p = false) (hk : p k = false) : (List.range (k + 1)).any p = false := by
  rw [List.range_succ, List.any_append, h]; simp [hk]
theorem any_hit {p : Nat → Bool} {n k : Nat} (hk : k < n) (h : p k = true) : (List.range n).any p = true := by
  rw [List.any_eq_true]; exact ⟨k, by simpa using hk, h⟩
end Go.Proofs.YthklgkgincebhaaGreatDoor
