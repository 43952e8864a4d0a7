/- Wind's texts: WindTexts at what comes in. -/
import Derived.Test.YtoelekhkgknneaaDoorTm
import Derived.Test.YtoelekhkgknneaaDoorTdoor
import Derived.Test.YtoelekhkgknneaaDoorFrameC
set_option linter.unusedSimpArgs false
set_option linter.unusedVariables false
namespace Go.Proofs.YtoelekhkgknneaaDoor
open Go.ChangeShapes Go.WideShapes Go.ChangeAt Go.RowKit Go.Deep Go.Joins
section
variable {H : Type} {enc : TypeId × Value → H} {w : World} {base : Nat} {spare : Nat → Bool} {held : Bool}
theorem dec_int1 (n : Nat) (cs : List Value) (x) (h : DataW.trod enc Tryd.prog w base spare held n 3 cs = some x) : ∃ a : Int, cs = zC a ∧ True := by
  obtain ⟨a, e, _⟩ := dec_int Tryd.underlying3 _ _ _ h
  exact ⟨a, e, trivial⟩
end
theorem f_WindTexts (A : Option Addr) (l : List Int) (c : Nat) (s : ByteArray) (w : World) (hL : LdW w) (hl : l.length ≤ maxLen) (hR : Rd zC 1 w A l) (_ : ∀ x ∈ l, True) (hs : s.size ≤ maxLen) :
    Calls Tryd.prog 4 #[.slice A l.length c, .string s] w fun e w' => e = .returned (.bool true) ∧ Below w.heap.size w w' :=
  l_WindTexts A l c s w hl hs hL hR
end Go.Proofs.YtoelekhkgknneaaDoor
