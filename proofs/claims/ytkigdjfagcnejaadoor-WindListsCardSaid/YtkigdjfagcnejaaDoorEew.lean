/- Wind cards: WindLists over what comes in. -/
import Derived.Test.YtkigdjfagcnejaaDoorVdec
import Derived.Test.YtkigdjfagcnejaaDoorEe
set_option linter.unusedSimpArgs false
set_option linter.unusedVariables false
namespace Go.Proofs.YtkigdjfagcnejaaDoor
open Go.RowKit
theorem f_WindLists (A : Option Addr) (l : List Int) (c : Nat) (B : Option Addr) (m : List Int) (d : Nat) (D : Option Addr) (rs : List Ru) (d' : Nat) (fr tu : Int) (w : World)
    (hl : l.length ≤ maxLen) (hR : Rd zC 1 w A l) (_ : ∀ x ∈ l, True) (hc : l.length ≤ c) (hcm : c ≤ maxLen) (hm : m.length ≤ maxLen) (hS : Rd zC 1 w B m) (_ : ∀ x ∈ m, True) (hr : rs.length ≤ maxLen) (hT : Rd Ru.cs 3 w D rs) (_ : ∀ x ∈ rs, I64 x.s ∧ I64 x.g ∧ I64 x.c) (_ : (Lit.int .i64 fr).wf = true) (_ : (Lit.int .i64 tu).wf = true) :
    Calls Tryd.prog 8 #[.slice A l.length c, .slice B m.length d, .slice D rs.length d', .int .i64 fr, .int .i64 tu] w fun e w' => e = .returned (.bool true) ∧ Below w.heap.size w w' := l_WindLists A l c B m d D rs d' fr tu w hl hR hc hcm hm hS hr hT
end Go.Proofs.YtkigdjfagcnejaaDoor
