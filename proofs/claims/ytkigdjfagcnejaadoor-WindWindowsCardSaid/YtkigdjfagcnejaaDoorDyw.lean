/- Wind cards: WindWindows over what comes in. -/
import Derived.Test.YtkigdjfagcnejaaDoorVdec
import Derived.Test.YtkigdjfagcnejaaDoorDy
set_option linter.unusedSimpArgs false
set_option linter.unusedVariables false
namespace Go.Proofs.YtkigdjfagcnejaaDoor
open Go.RowKit
theorem f_WindWindows (A : Option Addr) (cs : List Ca) (c : Nat) (mk n fr tu : Int) (w : World) (hcl : cs.length ≤ maxLen) (hR : Rd Ca.cs 4 w A cs) (_ : ∀ x ∈ cs, True) (_ : (Lit.int .i64 mk).wf = true) (_ : (Lit.int .i64 n).wf = true) (_ : (Lit.int .i64 fr).wf = true) (_ : (Lit.int .i64 tu).wf = true) :
    Calls Tryd.prog 6 #[.slice A cs.length c, .int .i64 mk, .int .i64 n, .int .i64 fr, .int .i64 tu] w fun e w' => e = .returned (.bool true) ∧ Below w.heap.size w w' := l_WindWindows A cs c mk n fr tu w hcl hR
end Go.Proofs.YtkigdjfagcnejaaDoor
