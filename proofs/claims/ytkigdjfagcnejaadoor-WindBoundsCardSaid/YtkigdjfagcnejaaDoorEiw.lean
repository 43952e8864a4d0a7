/- Wind cards: WindBounds over what comes in. -/
import Derived.Test.YtkigdjfagcnejaaDoorVdec
import Derived.Test.YtkigdjfagcnejaaDoorEi
set_option linter.unusedSimpArgs false
set_option linter.unusedVariables false
namespace Go.Proofs.YtkigdjfagcnejaaDoor
open Go.RowKit
theorem f_WindBounds (r : Ru) (A : Option Addr) (l : List Int) (c : Nat) (B : Option Addr) (m : List Int) (d : Nat) (w : World) (_ : I64 r.s ∧ I64 r.g ∧ I64 r.c)
    (hl : l.length ≤ maxLen) (hR : Rd zC 1 w A l) (_ : ∀ x ∈ l, True) (hm : m.length ≤ maxLen) (hS : Rd zC 1 w B m) (_ : ∀ x ∈ m, True) :
    Calls Tryd.prog 9 #[.agg r.cs.toArray, .slice A l.length c, .slice B m.length d] w fun e w' => e = .returned (.bool true) ∧ Below w.heap.size w w' := l_WindBounds A r l c B m d w hl hR hm hS
end Go.Proofs.YtkigdjfagcnejaaDoor
