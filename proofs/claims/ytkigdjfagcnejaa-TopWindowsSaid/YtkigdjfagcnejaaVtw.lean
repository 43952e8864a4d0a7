/- Wind: TopWindows over what comes in. -/
import Derived.Test.YtkigdjfagcnejaaVdec
import Derived.Test.YtkigdjfagcnejaaVj
set_option linter.unusedSimpArgs false
set_option linter.unusedVariables false
namespace Go.Proofs.Ytkigdjfagcnejaa
open Go.RowKit
theorem f_TopWindows (r : Ru) (A : Option Addr) (cs : List Ca) (c : Nat) (B : Option Addr) (l : List Int) (d : Nat) (mk n : Int) (w : World) (_ : I64 r.s ∧ I64 r.g ∧ I64 r.c) (hcl0 : cs.length ≤ maxLen) (hR : Rd Ca.cs 4 w A cs) (_ : ∀ x ∈ cs, True) (hl0 : l.length ≤ maxLen) (hS : Rd zC 1 w B l) (_ : ∀ x ∈ l, True) (_ : (Lit.int .i64 mk).wf = true) (_ : (Lit.int .i64 n).wf = true) :
    Calls Try.prog 3 #[.agg r.cs.toArray, .slice A cs.length c, .slice B l.length d, .int .i64 mk, .int .i64 n] w fun e w' => e = .returned (.bool true) ∧ Below w.heap.size w w' :=
  l_TopWindows r A cs c B l d mk n w hcl0 hR hl0 hS
end Go.Proofs.Ytkigdjfagcnejaa
