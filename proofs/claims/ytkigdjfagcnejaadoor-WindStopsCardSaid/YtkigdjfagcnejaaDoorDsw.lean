/- Wind cards: WindStops over what comes in. -/
import Derived.Test.YtkigdjfagcnejaaDoorVdec
import Derived.Test.YtkigdjfagcnejaaDoorDs
set_option linter.unusedSimpArgs false
set_option linter.unusedVariables false
namespace Go.Proofs.YtkigdjfagcnejaaDoor
open Go.RowKit
theorem f_WindStops (r : Ru) (A : Option Addr) (l : List Int) (c : Nat) (mi fr tu : Int) (w : World) (_ : I64 r.s ∧ I64 r.g ∧ I64 r.c) (hl : l.length ≤ maxLen) (hR : Rd zC 1 w A l) (_ : ∀ x ∈ l, True) (_ : (Lit.int .i64 mi).wf = true) (_ : (Lit.int .i64 fr).wf = true) (_ : (Lit.int .i64 tu).wf = true) :
    Calls Tryd.prog 7 #[.agg r.cs.toArray, .slice A l.length c, .int .i64 mi, .int .i64 fr, .int .i64 tu] w fun e w' => e = .returned (.bool true) ∧ Below w.heap.size w w' := l_WindStops r A l c mi fr tu w hl hR
end Go.Proofs.YtkigdjfagcnejaaDoor
