/- Fell: FellMore over what comes in. -/
import Derived.Test.YtkeojokbpjdhpaaFdec
import Derived.Test.YtkeojokbpjdhpaaFm1
set_option linter.unusedSimpArgs false
set_option linter.unusedVariables false
namespace Go.Proofs.Ytkeojokbpjdhpaa
open Go.RowKit
theorem f_FellMore (A : Option Addr) (l : List Pr) (c : Nat) (s : Sp) (i : Int) (w : World) (hl : l.length ≤ maxLen) (hR : Rd Pr.cs 3 w A l) (_ : ∀ x ∈ l, True) (hc : l.length ≤ c) (hcm : c ≤ maxLen) (_ : True) (hi : (Lit.int .i64 i).wf = true) :
    Calls Try.prog 3 #[.slice A l.length c, .agg s.cs.toArray, .int .i64 i] w fun e w' => e = .returned (.bool true) ∧ Below w.heap.size w w' :=
  l_FellMore A l c s i w hl hc hcm hR (i64_of hi).1 (i64_of hi).2
end Go.Proofs.Ytkeojokbpjdhpaa
