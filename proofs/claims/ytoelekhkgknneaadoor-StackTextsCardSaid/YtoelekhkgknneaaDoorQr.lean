/- Stack's texts: StackTexts at what comes in. -/
import Derived.Test.YtoelekhkgknneaaDoorQo
import Derived.Test.YtoelekhkgknneaaDoorQdoor
import Derived.Test.YtoelekhkgknneaaDoorFrameC
import Derived.Test.YtoelekhkgknneaaDoorSdec
set_option linter.unusedSimpArgs false
set_option linter.unusedVariables false
namespace Go.Proofs.YtoelekhkgknneaaDoor
open Go.RowKit
theorem f_StackTexts (A : Option Addr) (g : List Course) (c : Nat) (s : ByteArray) (w : World) (hL : Tx.LdW w) (hl : g.length ≤ maxLen) (hR : Rd Course.cs 6 w A g) (_ : ∀ x ∈ g, True) (hs : s.size ≤ maxLen) :
    Calls Tryd.prog 5 #[.slice A g.length c, .string s] w fun e w' => e = .returned (.bool true) ∧ Below w.heap.size w w' :=
  Tx.l_StackTexts A g c s w hl hs hL hR
end Go.Proofs.YtoelekhkgknneaaDoor
