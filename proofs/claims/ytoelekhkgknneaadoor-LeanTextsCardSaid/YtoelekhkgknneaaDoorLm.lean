/- Lean: beyond, by the reference. -/
import Derived.Test.YtoelekhkgknneaaDoorLj
namespace Go.Proofs.YtoelekhkgknneaaDoor
open Go.RowKit

theorem abs_sq (x : Int) : ((x.natAbs * x.natAbs : Nat) : Int) = x * x := by rw [Int.natCast_mul, Int.natAbs_mul_self']
theorem sq_small {x : Int} (h : I64 x) : x.natAbs * x.natAbs ≤ Q64 * Q64 / 4 := by
  have h1 : x.natAbs ≤ 9223372036854775808 := by have := h.lo; have := h.hi; omega
  calc x.natAbs * x.natAbs ≤ 9223372036854775808 * 9223372036854775808 := Nat.mul_le_mul h1 h1
    _ ≤ Q64 * Q64 / 4 := by decide

end Go.Proofs.YtoelekhkgknneaaDoor
