/- Lean: LeanCompares over fractions as they come in. -/
import Derived.Test.YtohbejdfaecghaaLdec
import Derived.Test.YtohbejdfaecghaaLk
namespace Go.Proofs.Ytohbejdfaecghaa
open Go.RowKit
theorem l_comparesF (a b : Fr) (w : World) (h : I64 a.n ∧ I64 a.d) (h' : I64 b.n ∧ I64 b.d) :
    Calls Try.prog 3 #[.agg a.cs.toArray, .agg b.cs.toArray] w fun e w' => e = .returned (.bool true) ∧ Below w.heap.size w w' := by
  obtain ⟨n, d⟩ := a
  obtain ⟨n', d'⟩ := b
  exact l_compares n d n' d' w h.1 h.2 h'.1 h'.2
end Go.Proofs.Ytohbejdfaecghaa
