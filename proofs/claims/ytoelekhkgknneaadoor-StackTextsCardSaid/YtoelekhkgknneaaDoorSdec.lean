/- Stack: a course that comes in reads as its six cells. -/
import Derived.Test.YtoelekhkgknneaaDoorFrame
import Derived.Test.YtoelekhkgknneaaDoorSa
namespace Go.Proofs.YtoelekhkgknneaaDoor
open Go.ChangeShapes Go.WideShapes Go.ChangeAt Go.RowKit Go.Deep Go.Joins
section
variable {H : Type} {enc : TypeId × Value → H} {w : World} {base : Nat} {spare : Nat → Bool} {held : Bool}
theorem dec_course (n : Nat) (cs : List Value) (x) (h : DataW.trod enc Tryd.prog w base spare held n 91 cs = some x) : ∃ a : Course, cs = a.cs ∧ True := by
  obtain ⟨hl, hf⟩ := dec_fields Tryd.underlying91 (by kernel_rfl) (by kernel_rfl) n cs x h
  match cs, hl with
  | [c0, c1, c2, c3, c4, c5], _ =>
    obtain ⟨m0, y0, e0⟩ := hf 0 _ c0 rfl rfl
    obtain ⟨m1, y1, e1⟩ := hf 1 _ c1 rfl rfl
    obtain ⟨m2, y2, e2⟩ := hf 2 _ c2 rfl rfl
    obtain ⟨m3, y3, e3⟩ := hf 3 _ c3 rfl rfl
    obtain ⟨m4, y4, e4⟩ := hf 4 _ c4 rfl rfl
    obtain ⟨m5, y5, e5⟩ := hf 5 _ c5 rfl rfl
    obtain ⟨a0, g0, _⟩ := dec_int Tryd.underlying3 _ _ _ e0
    obtain ⟨a1, g1, _⟩ := dec_int Tryd.underlying3 _ _ _ e1
    obtain ⟨a2, g2, _⟩ := dec_int Tryd.underlying3 _ _ _ e2
    obtain ⟨a3, g3, _⟩ := dec_int Tryd.underlying3 _ _ _ e3
    obtain ⟨a4, g4, _⟩ := dec_int Tryd.underlying3 _ _ _ e4
    obtain ⟨a5, g5, _⟩ := dec_int Tryd.underlying3 _ _ _ e5
    cases g0; cases g1; cases g2; cases g3; cases g4; cases g5
    exact ⟨⟨a0, a1, a2, a3, a4, a5⟩, rfl, trivial⟩
end
end Go.Proofs.YtoelekhkgknneaaDoor
