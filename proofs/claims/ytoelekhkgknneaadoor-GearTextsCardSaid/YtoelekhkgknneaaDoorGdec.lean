/- Gear: items and links that come in. -/
import Derived.Test.YtoelekhkgknneaaDoorFrameC
import Derived.Test.YtoelekhkgknneaaDoorGe
set_option linter.unusedSimpArgs false
set_option linter.unusedVariables false
namespace Go.Proofs.YtoelekhkgknneaaDoor
open Go.ChangeShapes Go.WideShapes Go.ChangeAt Go.RowKit Go.Deep Go.Joins
/-- a number that comes in is well formed -/
theorem i64_of {n : Int} (h : (Lit.int .i64 n).wf = true) : -9223372036854775808 ≤ n ∧ n ≤ 9223372036854775807 := by
  have h1 : (decide (IntKind.i64.min ≤ n) && decide (n ≤ IntKind.i64.max)) = true := h
  rw [show IntKind.i64.min = -9223372036854775808 from rfl, show IntKind.i64.max = 9223372036854775807 from rfl, Bool.and_eq_true, decide_eq_true_eq, decide_eq_true_eq] at h1
  exact ⟨h1.1, h1.2⟩
section
variable {H : Type} {enc : TypeId × Value → H} {w : World} {base : Nat} {spare : Nat → Bool} {held : Bool}
theorem dec_item (n : Nat) (cs : List Value) (x) (h : DataW.trod enc Tryd.prog w base spare held n 52 cs = some x) : ∃ a : It, cs = a.cs ∧ IW a := by
  obtain ⟨hl, hf⟩ := dec_fields Tryd.underlying52 (by kernel_rfl) (by kernel_rfl) n cs x h
  match cs, hl with
  | [c0, c1, c2, c3], _ =>
    obtain ⟨m0, y0, e0⟩ := hf 0 _ c0 rfl rfl
    obtain ⟨m1, y1, e1⟩ := hf 1 _ c1 rfl rfl
    obtain ⟨m2, y2, e2⟩ := hf 2 _ c2 rfl rfl
    obtain ⟨m3, y3, e3⟩ := hf 3 _ c3 rfl rfl
    obtain ⟨a0, g0, _, f0⟩ := DataW.trod_string Tryd.underlying9 e0
    obtain ⟨a1, g1, f1⟩ := dec_int Tryd.underlying3 _ _ _ e1
    obtain ⟨a2, g2, f2⟩ := dec_int Tryd.underlying3 _ _ _ e2
    obtain ⟨a3, g3, _, f3⟩ := DataW.trod_string Tryd.underlying9 e3
    cases g0; cases g1; cases g2; cases g3
    exact ⟨⟨a0, a1, a2, a3⟩, rfl, f0, f3, (i64_of f1).1, (i64_of f1).2, (i64_of f2).1, (i64_of f2).2⟩
theorem dec_int1 (n : Nat) (cs : List Value) (x) (h : DataW.trod enc Tryd.prog w base spare held n 3 cs = some x) : ∃ a : Int, cs = zC a ∧ True := by
  obtain ⟨a, e, _⟩ := dec_int Tryd.underlying3 _ _ _ h
  exact ⟨a, e, trivial⟩
theorem dec_link (n : Nat) (cs : List Value) (x) (h : DataW.trod enc Tryd.prog w base spare held n 54 cs = some x) : ∃ a : Lk, cs = a.cs ∧ LW a := by
  obtain ⟨hl, hf⟩ := dec_fields Tryd.underlying54 (by kernel_rfl) (by kernel_rfl) n cs x h
  match cs, hl with
  | [c0, c1], _ =>
    obtain ⟨m0, y0, e0⟩ := hf 0 _ c0 rfl rfl
    obtain ⟨m1, y1, e1⟩ := hf 1 _ c1 rfl rfl
    obtain ⟨a0, g0, _, f0⟩ := DataW.trod_string Tryd.underlying9 e0
    obtain ⟨a1, g1, f1⟩ := dec_int Tryd.underlying3 _ _ _ e1
    cases g0; cases g1
    exact ⟨⟨a0, a1⟩, rfl, f0, (i64_of f1).1, (i64_of f1).2⟩
end
end Go.Proofs.YtoelekhkgknneaaDoor
