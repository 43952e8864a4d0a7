/- Wind cards: the walked laws over rules that came in. -/
import Derived.Test.YtkigdjfagcnejaaDoorVdec
import Derived.Test.YtkigdjfagcnejaaDoorDc
set_option linter.unusedSimpArgs false
set_option linter.unusedVariables false
namespace Go.Proofs.YtkigdjfagcnejaaDoor
open Go.RowKit
theorem f_WindStricter (r : Ru) (A : Option Addr) (l : List Int) (c : Nat) (sp cl : Int) (w : World) (_ : I64 r.s ∧ I64 r.g ∧ I64 r.c) (hl : l.length ≤ maxLen) (hR : Rd zC 1 w A l) (_ : ∀ x ∈ l, True) (_ : (Lit.int .i64 sp).wf = true) (_ : (Lit.int .i64 cl).wf = true) :
    Calls Tryd.prog 3 #[.agg r.cs.toArray, .slice A l.length c, .int .i64 sp, .int .i64 cl] w fun e w' => e = .returned (.bool true) ∧ Below w.heap.size w w' := l_WindStricter r A l c sp cl w hl hR
end Go.Proofs.YtkigdjfagcnejaaDoor
