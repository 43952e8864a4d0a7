/- Wind cards: WindCovers over what comes in. -/
import Derived.Test.YtkigdjfagcnejaaDoorVdec
import Derived.Test.YtkigdjfagcnejaaDoorDh
set_option linter.unusedSimpArgs false
set_option linter.unusedVariables false
namespace Go.Proofs.YtkigdjfagcnejaaDoor
open Go.RowKit
theorem f_WindCovers (r : Ru) (A : Option Addr) (l : List Int) (c : Nat) (w : World) (_ : I64 r.s ∧ I64 r.g ∧ I64 r.c) (hl : l.length ≤ maxLen) (hR : Rd zC 1 w A l) (_ : ∀ x ∈ l, True) :
    Calls Tryd.prog 4 #[.agg r.cs.toArray, .slice A l.length c] w fun e w' => e = .returned (.bool true) ∧ Below w.heap.size w w' := l_WindCovers r A l c w hl hR
end Go.Proofs.YtkigdjfagcnejaaDoor
