/- Wind cards: WindKept over what comes in. -/
import Derived.Test.YtkigdjfagcnejaaDoorVdec
import Derived.Test.YtkigdjfagcnejaaDoorDe
set_option linter.unusedSimpArgs false
set_option linter.unusedVariables false
namespace Go.Proofs.YtkigdjfagcnejaaDoor
open Go.RowKit
theorem f_WindKept (A : Option Addr) (cs : List Ca) (c : Nat) (B : Option Addr) (l : List Int) (d : Nat) (mk n : Int) (w : World) (hcl : cs.length ≤ maxLen) (hR : Rd Ca.cs 4 w A cs) (_ : ∀ x ∈ cs, True) (hl : l.length ≤ maxLen) (hS : Rd zC 1 w B l) (_ : ∀ x ∈ l, True) (_ : (Lit.int .i64 mk).wf = true) (_ : (Lit.int .i64 n).wf = true) :
    Calls Tryd.prog 5 #[.slice A cs.length c, .slice B l.length d, .int .i64 mk, .int .i64 n] w fun e w' => e = .returned (.bool true) ∧ Below w.heap.size w w' := l_WindKept A cs c B l d mk n w hcl hR hl hS
end Go.Proofs.YtkigdjfagcnejaaDoor
