/- Lean: fractions and points that come in. -/
import Derived.Test.YtohbejdfaecghaaFrameC
import Derived.Test.YtohbejdfaecghaaLf
namespace Go.Proofs.Ytohbejdfaecghaa
open Go.ChangeShapes Go.WideShapes Go.ChangeAt Go.RowKit Go.Deep Go.Joins
/-- a fraction -/
structure Fr where
  n : Int
  d : Int
def Fr.cs (a : Fr) : List Value := [.int .i64 a.n, .int .i64 a.d]
section
variable {H : Type} {enc : TypeId × Value → H} {w : World} {base : Nat} {spare : Nat → Bool} {held : Bool}
theorem dec_ratio (n : Nat) (cs : List Value) (x) (h : DataW.trod enc Try.prog w base spare held n 23 cs = some x) : ∃ a : Fr, cs = a.cs ∧ (I64 a.n ∧ I64 a.d) := by
  obtain ⟨hl, hf⟩ := dec_fields Try.underlying23 (by kernel_rfl) (by kernel_rfl) n cs x h
  match cs, hl with
  | [c0, c1], _ =>
    obtain ⟨m0, y0, e0⟩ := hf 0 _ c0 rfl rfl
    obtain ⟨m1, y1, e1⟩ := hf 1 _ c1 rfl rfl
    obtain ⟨a0, g0, f0⟩ := dec_int Try.underlying3 _ _ _ e0
    obtain ⟨a1, g1, f1⟩ := dec_int Try.underlying3 _ _ _ e1
    cases g0; cases g1
    exact ⟨⟨a0, a1⟩, rfl, i64_of f0, i64_of f1⟩
theorem dec_point (n : Nat) (cs : List Value) (x) (h : DataW.trod enc Try.prog w base spare held n 28 cs = some x) : ∃ a : Pt, cs = a.cs ∧ (I64 a.h ∧ I64 a.x) := by
  obtain ⟨hl, hf⟩ := dec_fields Try.underlying28 (by kernel_rfl) (by kernel_rfl) n cs x h
  match cs, hl with
  | [c0, c1], _ =>
    obtain ⟨m0, y0, e0⟩ := hf 0 _ c0 rfl rfl
    obtain ⟨m1, y1, e1⟩ := hf 1 _ c1 rfl rfl
    obtain ⟨a0, g0, f0⟩ := dec_int Try.underlying3 _ _ _ e0
    obtain ⟨a1, g1, f1⟩ := dec_int Try.underlying3 _ _ _ e1
    cases g0; cases g1
    exact ⟨⟨a0, a1⟩, rfl, i64_of f0, i64_of f1⟩
end
end Go.Proofs.Ytohbejdfaecghaa
