/- Gear: validRig and ValidRig by the reference. -/
import Derived.Test.YtoelekhkgknneaaDoorGe
set_option linter.unusedSimpArgs false
set_option linter.unusedVariables false
namespace Go.Proofs.YtoelekhkgknneaaDoor
open Go.RowKit Go.Maps

theorem fndl_ge {r : List Lk} {s : ByteArray} {k : Nat} (h : ∀ j y, j < k → r[j]? = some y → y.nm.toList ≠ s.toList) (h0 : 0 ≤ fndL r s) : ¬ fndL r s < k := by
  intro hlt
  obtain ⟨n, hn⟩ := Int.eq_ofNat_of_zero_le h0
  obtain ⟨y, hy, he⟩ := fndl_at hn
  exact h n y (by omega) hy he
end Go.Proofs.YtoelekhkgknneaaDoor
