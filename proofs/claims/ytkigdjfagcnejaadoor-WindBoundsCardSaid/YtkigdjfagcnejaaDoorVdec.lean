/- Wind: rules, forecasts and numbers that come in. -/
import Derived.Test.YtkigdjfagcnejaaDoorFrameC
import Derived.Test.YtkigdjfagcnejaaDoorVf
set_option linter.unusedSimpArgs false
set_option linter.unusedVariables false
namespace Go.Proofs.YtkigdjfagcnejaaDoor
open Go.ChangeShapes Go.WideShapes Go.ChangeAt Go.RowKit Go.Deep Go.Joins
def Ru.cs (a : Ru) : List Value := [.int .i64 a.s, .int .i64 a.g, .int .i64 a.c]
theorem i64_of {n : Int} (h : (Lit.int .i64 n).wf = true) : -9223372036854775808 ≤ n ∧ n ≤ 9223372036854775807 := by
  have h1 : (decide (IntKind.i64.min ≤ n) && decide (n ≤ IntKind.i64.max)) = true := h
  rw [show IntKind.i64.min = -9223372036854775808 from rfl, show IntKind.i64.max = 9223372036854775807 from rfl, Bool.and_eq_true, decide_eq_true_eq, decide_eq_true_eq] at h1
  exact ⟨h1.1, h1.2⟩
def I64 (n : Int) : Prop := -9223372036854775808 ≤ n ∧ n ≤ 9223372036854775807
section
variable {H : Type} {enc : TypeId × Value → H} {w : World} {base : Nat} {spare : Nat → Bool} {held : Bool}
theorem dec_rule (n : Nat) (cs : List Value) (x) (h : DataW.trod enc Tryd.prog w base spare held n 23 cs = some x) : ∃ a : Ru, cs = a.cs ∧ (I64 a.s ∧ I64 a.g ∧ I64 a.c) := by
  obtain ⟨hl, hf⟩ := dec_fields Tryd.underlying23 (by kernel_rfl) (by kernel_rfl) n cs x h
  match cs, hl with
  | [c0, c1, c2], _ =>
    obtain ⟨m0, y0, e0⟩ := hf 0 _ c0 rfl rfl
    obtain ⟨m1, y1, e1⟩ := hf 1 _ c1 rfl rfl
    obtain ⟨m2, y2, e2⟩ := hf 2 _ c2 rfl rfl
    obtain ⟨a0, g0, f0⟩ := dec_int Tryd.underlying3 _ _ _ e0
    obtain ⟨a1, g1, f1⟩ := dec_int Tryd.underlying3 _ _ _ e1
    obtain ⟨a2, g2, f2⟩ := dec_int Tryd.underlying3 _ _ _ e2
    cases g0; cases g1; cases g2
    exact ⟨⟨a0, a1, a2⟩, rfl, i64_of f0, i64_of f1, i64_of f2⟩
theorem dec_cast (n : Nat) (cs : List Value) (x) (h : DataW.trod enc Tryd.prog w base spare held n 78 cs = some x) : ∃ a : Ca, cs = a.cs ∧ True := by
  obtain ⟨hl, hf⟩ := dec_fields Tryd.underlying78 (by kernel_rfl) (by kernel_rfl) n cs x h
  match cs, hl with
  | [c0, c1, c2, c3], _ =>
    obtain ⟨m0, y0, e0⟩ := hf 0 _ c0 rfl rfl
    obtain ⟨m1, y1, e1⟩ := hf 1 _ c1 rfl rfl
    obtain ⟨m2, y2, e2⟩ := hf 2 _ c2 rfl rfl
    obtain ⟨m3, y3, e3⟩ := hf 3 _ c3 rfl rfl
    obtain ⟨a0, g0, f0⟩ := dec_int Tryd.underlying3 _ _ _ e0
    obtain ⟨a1, g1, f1⟩ := dec_int Tryd.underlying3 _ _ _ e1
    obtain ⟨a2, g2, f2⟩ := dec_int Tryd.underlying3 _ _ _ e2
    obtain ⟨a3, g3, f3⟩ := dec_int Tryd.underlying3 _ _ _ e3
    cases g0; cases g1; cases g2; cases g3
    exact ⟨⟨a0, a1, a2, a3⟩, rfl, trivial⟩
theorem dec_int1 (n : Nat) (cs : List Value) (x) (h : DataW.trod enc Tryd.prog w base spare held n 3 cs = some x) : ∃ a : Int, cs = zC a ∧ True := by
  obtain ⟨a, e, _⟩ := dec_int Tryd.underlying3 _ _ _ h
  exact ⟨a, e, trivial⟩
end
end Go.Proofs.YtkigdjfagcnejaaDoor
