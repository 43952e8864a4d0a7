/- Lean: LeanWorst over what comes in. -/
import Derived.Test.YtohbejdfaecghaaLdl
import Derived.Test.YtohbejdfaecghaaLtg
set_option linter.unusedSimpArgs false
set_option linter.unusedVariables false
namespace Go.Proofs.Ytohbejdfaecghaa
open Go.RowKit
theorem l_worstF (x : Ln) (A : Option Addr) (l : List Pt) (c : Nat) (w : World) (_ : I64 x.1 ∧ I64 x.2.1 ∧ I64 x.2.2) (hn : l.length ≤ maxLen) (hR : Rd Pt.cs 2 w A l) (_ : ∀ p ∈ l, I64 p.h ∧ I64 p.x) :
    Calls Try.prog 6 #[.agg (Lcs x).toArray, .slice A l.length c] w fun e w' => e = .returned (.bool true) ∧ Below w.heap.size w w' := by
  obtain ⟨a, b, d⟩ := x
  exact l_worst a b d A l c w hR hn
end Go.Proofs.Ytohbejdfaecghaa
