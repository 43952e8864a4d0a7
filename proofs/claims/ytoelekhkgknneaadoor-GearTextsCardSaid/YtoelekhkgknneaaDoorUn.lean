/- Gear's texts: GearTexts at what comes in. -/
import Derived.Test.YtoelekhkgknneaaDoorUl
import Derived.Test.YtoelekhkgknneaaDoorUdoor
import Derived.Test.YtoelekhkgknneaaDoorFrameC
import Derived.Test.YtoelekhkgknneaaDoorGdec
set_option linter.unusedSimpArgs false
set_option linter.unusedVariables false
namespace Go.Proofs.YtoelekhkgknneaaDoor
open Go.RowKit
theorem f_GearTexts (A : Option Addr) (g : List It) (c : Nat) (s : ByteArray) (w : World) (hL : LdW w) (hl : g.length ≤ maxLen) (hR : Rd It.cs 4 w A g) (hW : ∀ x ∈ g, IW x) (hs : s.size ≤ maxLen) :
    Calls Tryd.prog 3 #[.slice A g.length c, .string s] w fun e w' => e = .returned (.bool true) ∧ Below w.heap.size w w' :=
  l_GearTexts A g c s w hl hs hL hR hW
end Go.Proofs.YtoelekhkgknneaaDoor
