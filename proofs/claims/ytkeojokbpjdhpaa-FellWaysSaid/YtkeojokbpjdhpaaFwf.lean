/- Fell: FellWays over what comes in. -/
import Derived.Test.YtkeojokbpjdhpaaFdec
import Derived.Test.YtkeojokbpjdhpaaFwe
set_option linter.unusedSimpArgs false
set_option linter.unusedVariables false
namespace Go.Proofs.Ytkeojokbpjdhpaa
open Go.RowKit
theorem f_FellWays (A : Option Addr) (l : List Pr) (c : Nat) (s t : Sp) (w : World) (hl : l.length ≤ maxLen) (hR : Rd Pr.cs 3 w A l) (_ : ∀ x ∈ l, True) (_ : True) (_ : True) :
    Calls Try.prog 5 #[.slice A l.length c, .agg s.cs.toArray, .agg t.cs.toArray] w fun e w' => e = .returned (.bool true) ∧ Below w.heap.size w w' :=
  l_FellWays A l c s t w hl hR
end Go.Proofs.Ytkeojokbpjdhpaa
