/- Lean's texts: a mark that comes in; LeanTexts at what comes in. -/
import Derived.Test.YtoelekhkgknneaaDoorRe
import Derived.Test.YtoelekhkgknneaaDoorQdoor
import Derived.Test.YtoelekhkgknneaaDoorFrameC
set_option linter.unusedSimpArgs false
set_option linter.unusedVariables false
namespace Go.Proofs.YtoelekhkgknneaaDoor
open Go.ChangeShapes Go.WideShapes Go.ChangeAt Go.RowKit Go.Deep Go.Joins
section
variable {H : Type} {enc : TypeId × Value → H} {w : World} {base : Nat} {spare : Nat → Bool} {held : Bool}
theorem dec_mark (n : Nat) (cs : List Value) (x) (h : DataW.trod enc Tryd.prog w base spare held n 110 cs = some x) : ∃ a : Mk, cs = a.cs ∧ True := by
  obtain ⟨hl, hf⟩ := dec_fields Tryd.underlying110 (by kernel_rfl) (by kernel_rfl) n cs x h
  match cs, hl with
  | [c0, c1, c2], _ =>
    obtain ⟨m0, y0, e0⟩ := hf 0 _ c0 rfl rfl
    obtain ⟨m1, y1, e1⟩ := hf 1 _ c1 rfl rfl
    obtain ⟨m2, y2, e2⟩ := hf 2 _ c2 rfl rfl
    obtain ⟨a0, g0, f0⟩ := dec_int Tryd.underlying3 _ _ _ e0
    obtain ⟨a1, g1, f1⟩ := dec_int Tryd.underlying3 _ _ _ e1
    obtain ⟨a2, g2, f2⟩ := dec_int Tryd.underlying3 _ _ _ e2
    cases g0; cases g1; cases g2
    exact ⟨⟨a0, a1, a2⟩, rfl, trivial⟩
end
theorem f_LeanTexts (A : Option Addr) (g : List Mk) (c : Nat) (s : ByteArray) (w : World) (hL : Tx.LdW w) (hl : g.length ≤ maxLen) (hR : Rd Mk.cs 3 w A g) (_ : ∀ x ∈ g, True) (hs : s.size ≤ maxLen) :
    Calls Tryd.prog 6 #[.slice A g.length c, .string s] w fun e w' => e = .returned (.bool true) ∧ Below w.heap.size w w' :=
  Tx.l_LeanTexts A g c s w hl hs hL hR
end Go.Proofs.YtoelekhkgknneaaDoor
