/- Lean: LeanReaches over marks as they come in. -/
import Derived.Test.YtohbejdfaecghaaLdec
import Derived.Test.YtohbejdfaecghaaFarr
import Derived.Test.YtohbejdfaecghaaLr
namespace Go.Proofs.Ytohbejdfaecghaa
open Go.ChangeShapes Go.WideShapes Go.ChangeAt Go.RowKit Go.Deep Go.Joins
section
variable {H : Type} {enc : TypeId × Value → H} {w : World} {base : Nat} {spare : Nat → Bool} {held : Bool}
theorem dec_mark (n : Nat) (cs : List Value) (x) (h : DataW.trod enc Try.prog w base spare held n 48 cs = some x) : ∃ a : Mk, cs = a.cs ∧ (I64 a.h ∧ I64 a.e ∧ I64 a.n) := by
  obtain ⟨hl, hf⟩ := dec_fields Try.underlying48 (by kernel_rfl) (by kernel_rfl) n cs x h
  match cs, hl with
  | [c0, c1, c2], _ =>
    obtain ⟨m0, y0, e0⟩ := hf 0 _ c0 rfl rfl
    obtain ⟨m1, y1, e1⟩ := hf 1 _ c1 rfl rfl
    obtain ⟨m2, y2, e2⟩ := hf 2 _ c2 rfl rfl
    obtain ⟨a0, g0, f0⟩ := dec_int Try.underlying3 _ _ _ e0
    obtain ⟨a1, g1, f1⟩ := dec_int Try.underlying3 _ _ _ e1
    obtain ⟨a2, g2, f2⟩ := dec_int Try.underlying3 _ _ _ e2
    cases g0; cases g1; cases g2
    exact ⟨⟨a0, a1, a2⟩, rfl, i64_of f0, i64_of f1, i64_of f2⟩
end
theorem l_reachesF (a b : Mk) (f t lim : Int) (w : World) (_ : I64 a.h ∧ I64 a.e ∧ I64 a.n) (_ : I64 b.h ∧ I64 b.e ∧ I64 b.n) (_ : (Lit.int .i64 f).wf = true) (_ : (Lit.int .i64 t).wf = true) (_ : (Lit.int .i64 lim).wf = true) :
    Calls Try.prog 7 #[.agg a.cs.toArray, .agg b.cs.toArray, .agg #[.int .i64 f, .int .i64 t, .int .i64 lim]] w fun e w' => e = .returned (.bool true) ∧ Below w.heap.size w w' := by
  obtain ⟨h, e, n⟩ := a
  obtain ⟨h', e', n'⟩ := b
  exact l_reaches ⟨h, e, n⟩ ⟨h', e', n'⟩ f t lim w
end Go.Proofs.Ytohbejdfaecghaa
