/- Lean: lines that come in; LeanThrough, LeanLines over what comes in. -/
import Derived.Test.YtohbejdfaecghaaLdec
import Derived.Test.YtohbejdfaecghaaFarr
import Derived.Test.YtohbejdfaecghaaLte
import Derived.Test.YtohbejdfaecghaaLtf
set_option linter.unusedSimpArgs false
set_option linter.unusedVariables false
namespace Go.Proofs.Ytohbejdfaecghaa
open Go.ChangeShapes Go.WideShapes Go.ChangeAt Go.RowKit Go.Deep Go.Joins
def Lcs (x : Ln) : List Value := [.int .i64 x.1, .int .i64 x.2.1, .int .i64 x.2.2]
section
variable {H : Type} {enc : TypeId × Value → H} {w : World} {base : Nat} {spare : Nat → Bool} {held : Bool}
theorem dec_line (n : Nat) (cs : List Value) (x) (h : DataW.trod enc Try.prog w base spare held n 30 cs = some x) : ∃ a : Ln, cs = Lcs a ∧ (I64 a.1 ∧ I64 a.2.1 ∧ I64 a.2.2) := by
  obtain ⟨hl, hf⟩ := dec_fields Try.underlying30 (by kernel_rfl) (by kernel_rfl) n cs x h
  match cs, hl with
  | [c0, c1, c2], _ =>
    obtain ⟨m0, y0, e0⟩ := hf 0 _ c0 rfl rfl
    obtain ⟨m1, y1, e1⟩ := hf 1 _ c1 rfl rfl
    obtain ⟨m2, y2, e2⟩ := hf 2 _ c2 rfl rfl
    obtain ⟨a0, g0, f0⟩ := dec_int Try.underlying3 _ _ _ e0
    obtain ⟨a1, g1, f1⟩ := dec_int Try.underlying3 _ _ _ e1
    obtain ⟨a2, g2, f2⟩ := dec_int Try.underlying3 _ _ _ e2
    cases g0; cases g1; cases g2
    exact ⟨(a0, a1, a2), rfl, i64_of f0, i64_of f1, i64_of f2⟩
end
theorem l_throughF (p q : Pt) (w : World) (_ : I64 p.h ∧ I64 p.x) (_ : I64 q.h ∧ I64 q.x) :
    Calls Try.prog 4 #[.agg p.cs.toArray, .agg q.cs.toArray] w fun e w' => e = .returned (.bool true) ∧ Below w.heap.size w w' := by
  obtain ⟨h, x⟩ := p
  obtain ⟨h', x'⟩ := q
  exact l_through ⟨h, x⟩ ⟨h', x'⟩ w
theorem l_linesF (x : Ln) (p : Pt) (n0 n1 n2 n3 : Int) (w : World) (_ : I64 x.1 ∧ I64 x.2.1 ∧ I64 x.2.2) (_ : I64 p.h ∧ I64 p.x) (_ : (Lit.int .i64 n0).wf = true) (_ : (Lit.int .i64 n1).wf = true) (_ : (Lit.int .i64 n2).wf = true) (_ : (Lit.int .i64 n3).wf = true) :
    Calls Try.prog 5 #[.agg (Lcs x).toArray, .agg p.cs.toArray, .agg #[.int .i64 n0, .int .i64 n1, .int .i64 n2, .int .i64 n3]] w fun e w' => e = .returned (.bool true) ∧ Below w.heap.size w w' := by
  obtain ⟨a, b, d⟩ := x
  obtain ⟨h', x'⟩ := p
  exact l_lines a b d ⟨h', x'⟩ n0 n1 n2 n3 w
end Go.Proofs.Ytohbejdfaecghaa
