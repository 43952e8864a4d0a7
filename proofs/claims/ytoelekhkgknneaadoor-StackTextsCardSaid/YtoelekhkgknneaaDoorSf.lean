/- Stack: the program's answers on heights, weights and centres. -/
import Derived.Test.YtoelekhkgknneaaDoorSe
namespace Go.Proofs.YtoelekhkgknneaaDoor
open Go.RowKit

theorem run_above0 (a b c d e : Value) (W : World) : (Instr.field 133 (.agg #[a, b, c, d, e]) 0).run Tryd.prog W = .ok a W := by kernel_rfl
theorem run_above3 (a b c d e : Value) (W : World) : (Instr.field 133 (.agg #[a, b, c, d, e]) 3).run Tryd.prog W = .ok d W := by kernel_rfl
theorem run_above4 (a b c d e : Value) (W : World) : (Instr.field 133 (.agg #[a, b, c, d, e]) 4).run Tryd.prog W = .ok e W := by kernel_rfl
end Go.Proofs.YtoelekhkgknneaaDoor
