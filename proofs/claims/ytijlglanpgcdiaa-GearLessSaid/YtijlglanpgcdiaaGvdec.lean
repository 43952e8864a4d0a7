/- Gear: texts that come in, in a list. -/
import Derived.Test.YtijlglanpgcdiaaGdec
import Derived.Test.YtijlglanpgcdiaaGva
set_option linter.unusedSimpArgs false
set_option linter.unusedVariables false
namespace Go.Proofs.Ytijlglanpgcdiaa
open Go.ChangeShapes Go.WideShapes Go.ChangeAt Go.RowKit Go.Deep Go.Joins
section
variable {H : Type} {enc : TypeId × Value → H} {w : World} {base : Nat} {spare : Nat → Bool} {held : Bool}
theorem dec_str1 (n : Nat) (cs : List Value) (x) (h : DataW.trod enc Try.prog w base spare held n 9 cs = some x) : ∃ a : ByteArray, cs = sC a ∧ a.size ≤ maxLen := by
  obtain ⟨a, e, _, hs⟩ := DataW.trod_string Try.underlying9 h
  exact ⟨a, e, hs⟩
end
end Go.Proofs.Ytijlglanpgcdiaa
