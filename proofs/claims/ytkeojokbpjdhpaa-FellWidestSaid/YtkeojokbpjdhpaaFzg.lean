/- Fell: FellWidest over what comes in. -/
import Derived.Test.YtkeojokbpjdhpaaFdec
import Derived.Test.YtkeojokbpjdhpaaFzf
set_option linter.unusedSimpArgs false
set_option linter.unusedVariables false
namespace Go.Proofs.Ytkeojokbpjdhpaa
open Go.RowKit
theorem f_FellWidest (f t : Sp) (r : Int) (A : Option Addr) (l : List Sp) (c : Nat) (w : World) (_ : True) (_ : True) (_ : (Lit.int .i64 r).wf = true) (hl : l.length ≤ maxLen) (hR : Rd Sp.cs 2 w A l) (_ : ∀ x ∈ l, True) :
    Calls Try.prog 7 #[.agg f.cs.toArray, .agg t.cs.toArray, .int .i64 r, .slice A l.length c] w fun e w' => e = .returned (.bool true) ∧ Below w.heap.size w w' :=
  l_FellWidest f t r A l c w hl hR
end Go.Proofs.Ytkeojokbpjdhpaa
