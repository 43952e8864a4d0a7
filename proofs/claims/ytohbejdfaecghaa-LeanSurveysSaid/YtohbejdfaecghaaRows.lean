/-
  No cell of these rows narrows 'for every input' (looked for: loops, veiled, ifaces, maps, wideKeys, modest, calm, conditions, laid).
  DERIVED. THE GIVEN ROWS OF THIS SEAT. 12 by the template 'for every input the law returns true; each argument reads behind the call as it read before'; 0 by the template 'total and deterministic' (their statements: YtohbejdfaecghaaTotals.lean).
  GIVEN WITH THE SEED: the statements are not yours to turn. If you find one false, say at which input.
  Laid BY PROGRAM, IN A SANDBOX (cutbox-rows.mjs): the forced cells as the released guide's own fill.sh prints them over the translation 86867e377103978f… (all of the seat's roots in one cut). By AI agents, Wed Nov 11 2026. No macro, syntax, notation, axiom, sorry.
-/
import Derived.Test.YtohbejdfaecghaaChecked
import GoSem.Claim
import GoSem.ClaimJoined
import GoSem.ClaimMapViews
import Derived.JoinedTies
import Derived.KernelRfl
namespace Go.Proofs.Ytohbejdfaecghaa
/- THE CELL 'sum', in the pinned program and in every row, IS THE sha256 OF THE DUMP (.gsa) THAT YtohbejdfaecghaaProg.lean LOADS. Nothing in Lean hashes anything: it is a label: what it is worth is what the hold of that sum in a sandbox is worth. -/
noncomputable def Try.pinned : Pinned := { name := "ytohbejdfaecghaa", sum := "86867e377103978f46fd6d673e3780504d4443bc2f800a1754b2e1d14b40f2eb", checked := Try.checked }
namespace Rows
def none {H : Type} : Left H := { results := [], args := [] }

/-- 'steeplejacklaw01.LeanCompares': WHATEVER THE INPUT: true; the input reads as it did. -/
def leanComparesSpec : ChangeSpec := { name := "leanCompares", fn := fun _ => fun
  | [d1, d2] => { results := [.lit (.bool true)], args := [d1, d2] }
  | _ => none }
def leanComparesRow : OpenClaim := { program := "ytohbejdfaecghaa", sum := "86867e377103978f46fd6d673e3780504d4443bc2f800a1754b2e1d14b40f2eb", func := "steeplejack/steeplejacklaw01.LeanCompares", spec := "leanCompares", unfollowed := true, recurses := true, apart := false }
def LeanComparesSaid : Prop := leanComparesRow.holds Try.pinned (OpenSpec.ofChange leanComparesSpec)

/-- ITS FALSE NEIGHBOUR: 'it returns false'. Refute it at one input. -/
def leanComparesWrong : ChangeSpec := { name := "leanCompares", fn := fun _ => fun
  | [d1, d2] => { results := [.lit (.bool false)], args := [d1, d2] }
  | _ => none }
def LeanComparesWrongFalsely : Prop := leanComparesRow.holds Try.pinned (OpenSpec.ofChange leanComparesWrong)

/-- 'steeplejacklaw01.LeanThrough': WHATEVER THE INPUT: true; the input reads as it did. -/
def leanThroughSpec : ChangeSpec := { name := "leanThrough", fn := fun _ => fun
  | [d1, d2] => { results := [.lit (.bool true)], args := [d1, d2] }
  | _ => none }
def leanThroughRow : OpenClaim := { program := "ytohbejdfaecghaa", sum := "86867e377103978f46fd6d673e3780504d4443bc2f800a1754b2e1d14b40f2eb", func := "steeplejack/steeplejacklaw01.LeanThrough", spec := "leanThrough", unfollowed := true, recurses := true, apart := false }
def LeanThroughSaid : Prop := leanThroughRow.holds Try.pinned (OpenSpec.ofChange leanThroughSpec)

/-- ITS FALSE NEIGHBOUR: 'it returns false'. Refute it at one input. -/
def leanThroughWrong : ChangeSpec := { name := "leanThrough", fn := fun _ => fun
  | [d1, d2] => { results := [.lit (.bool false)], args := [d1, d2] }
  | _ => none }
def LeanThroughWrongFalsely : Prop := leanThroughRow.holds Try.pinned (OpenSpec.ofChange leanThroughWrong)

/-- 'steeplejacklaw01.LeanLines': WHATEVER THE INPUT: true; the input reads as it did. -/
def leanLinesSpec : ChangeSpec := { name := "leanLines", fn := fun _ => fun
  | [d1, d2, d3] => { results := [.lit (.bool true)], args := [d1, d2, d3] }
  | _ => none }
def leanLinesRow : OpenClaim := { program := "ytohbejdfaecghaa", sum := "86867e377103978f46fd6d673e3780504d4443bc2f800a1754b2e1d14b40f2eb", func := "steeplejack/steeplejacklaw01.LeanLines", spec := "leanLines", unfollowed := true, recurses := true, apart := false }
def LeanLinesSaid : Prop := leanLinesRow.holds Try.pinned (OpenSpec.ofChange leanLinesSpec)

/-- ITS FALSE NEIGHBOUR: 'it returns false'. Refute it at one input. -/
def leanLinesWrong : ChangeSpec := { name := "leanLines", fn := fun _ => fun
  | [d1, d2, d3] => { results := [.lit (.bool false)], args := [d1, d2, d3] }
  | _ => none }
def LeanLinesWrongFalsely : Prop := leanLinesRow.holds Try.pinned (OpenSpec.ofChange leanLinesWrong)

/-- 'steeplejacklaw01.LeanWorst': WHATEVER THE INPUT: true; the input reads as it did. -/
def leanWorstSpec : ChangeSpec := { name := "leanWorst", fn := fun _ => fun
  | [d1, d2] => { results := [.lit (.bool true)], args := [d1, d2] }
  | _ => none }
def leanWorstRow : OpenClaim := { program := "ytohbejdfaecghaa", sum := "86867e377103978f46fd6d673e3780504d4443bc2f800a1754b2e1d14b40f2eb", func := "steeplejack/steeplejacklaw01.LeanWorst", spec := "leanWorst", unfollowed := true, recurses := true, apart := false }
def LeanWorstSaid : Prop := leanWorstRow.holds Try.pinned (OpenSpec.ofChange leanWorstSpec)

/-- ITS FALSE NEIGHBOUR: 'it returns false'. Refute it at one input. -/
def leanWorstWrong : ChangeSpec := { name := "leanWorst", fn := fun _ => fun
  | [d1, d2] => { results := [.lit (.bool false)], args := [d1, d2] }
  | _ => none }
def LeanWorstWrongFalsely : Prop := leanWorstRow.holds Try.pinned (OpenSpec.ofChange leanWorstWrong)

/-- 'steeplejacklaw01.LeanReaches': WHATEVER THE INPUT: true; the input reads as it did. -/
def leanReachesSpec : ChangeSpec := { name := "leanReaches", fn := fun _ => fun
  | [d1, d2, d3] => { results := [.lit (.bool true)], args := [d1, d2, d3] }
  | _ => none }
def leanReachesRow : OpenClaim := { program := "ytohbejdfaecghaa", sum := "86867e377103978f46fd6d673e3780504d4443bc2f800a1754b2e1d14b40f2eb", func := "steeplejack/steeplejacklaw01.LeanReaches", spec := "leanReaches", inPlace := ["math/bits.Add64"], unfollowed := true, recurses := true, apart := false }
def LeanReachesSaid : Prop := leanReachesRow.holds Try.pinned (OpenSpec.ofChange leanReachesSpec)

/-- ITS FALSE NEIGHBOUR: 'it returns false'. Refute it at one input. -/
def leanReachesWrong : ChangeSpec := { name := "leanReaches", fn := fun _ => fun
  | [d1, d2, d3] => { results := [.lit (.bool false)], args := [d1, d2, d3] }
  | _ => none }
def LeanReachesWrongFalsely : Prop := leanReachesRow.holds Try.pinned (OpenSpec.ofChange leanReachesWrong)

/-- 'steeplejacklaw01.LeanMoves': WHATEVER THE INPUT: true; the input reads as it did. -/
def leanMovesSpec : ChangeSpec := { name := "leanMoves", fn := fun _ => fun
  | [d1, d2, d3] => { results := [.lit (.bool true)], args := [d1, d2, d3] }
  | _ => none }
def leanMovesRow : OpenClaim := { program := "ytohbejdfaecghaa", sum := "86867e377103978f46fd6d673e3780504d4443bc2f800a1754b2e1d14b40f2eb", func := "steeplejack/steeplejacklaw01.LeanMoves", spec := "leanMoves", unfollowed := true, recurses := true, apart := false }
def LeanMovesSaid : Prop := leanMovesRow.holds Try.pinned (OpenSpec.ofChange leanMovesSpec)

/-- ITS FALSE NEIGHBOUR: 'it returns false'. Refute it at one input. -/
def leanMovesWrong : ChangeSpec := { name := "leanMoves", fn := fun _ => fun
  | [d1, d2, d3] => { results := [.lit (.bool false)], args := [d1, d2, d3] }
  | _ => none }
def LeanMovesWrongFalsely : Prop := leanMovesRow.holds Try.pinned (OpenSpec.ofChange leanMovesWrong)

/-- 'steeplejacklaw01.LeanNearest': WHATEVER THE INPUT: true; the input reads as it did. -/
def leanNearestSpec : ChangeSpec := { name := "leanNearest", fn := fun _ => fun
  | [d] => { results := [.lit (.bool true)], args := [d] }
  | _ => none }
def leanNearestRow : OpenClaim := { program := "ytohbejdfaecghaa", sum := "86867e377103978f46fd6d673e3780504d4443bc2f800a1754b2e1d14b40f2eb", func := "steeplejack/steeplejacklaw01.LeanNearest", spec := "leanNearest", unfollowed := true, recurses := true, apart := false }
def LeanNearestSaid : Prop := leanNearestRow.holds Try.pinned (OpenSpec.ofChange leanNearestSpec)

/-- ITS FALSE NEIGHBOUR: 'it returns false'. Refute it at one input. -/
def leanNearestWrong : ChangeSpec := { name := "leanNearest", fn := fun _ => fun
  | [d] => { results := [.lit (.bool false)], args := [d] }
  | _ => none }
def LeanNearestWrongFalsely : Prop := leanNearestRow.holds Try.pinned (OpenSpec.ofChange leanNearestWrong)

/-- 'steeplejacklaw01.LeanLeast': WHATEVER THE INPUT: true; the input reads as it did. -/
def leanLeastSpec : ChangeSpec := { name := "leanLeast", fn := fun _ => fun
  | [d1, d2] => { results := [.lit (.bool true)], args := [d1, d2] }
  | _ => none }
def leanLeastRow : OpenClaim := { program := "ytohbejdfaecghaa", sum := "86867e377103978f46fd6d673e3780504d4443bc2f800a1754b2e1d14b40f2eb", func := "steeplejack/steeplejacklaw01.LeanLeast", spec := "leanLeast", unfollowed := true, recurses := true, apart := false }
def LeanLeastSaid : Prop := leanLeastRow.holds Try.pinned (OpenSpec.ofChange leanLeastSpec)

/-- ITS FALSE NEIGHBOUR: 'it returns false'. Refute it at one input. -/
def leanLeastWrong : ChangeSpec := { name := "leanLeast", fn := fun _ => fun
  | [d1, d2] => { results := [.lit (.bool false)], args := [d1, d2] }
  | _ => none }
def LeanLeastWrongFalsely : Prop := leanLeastRow.holds Try.pinned (OpenSpec.ofChange leanLeastWrong)

/-- 'steeplejacklaw01.LeanSurveys': WHATEVER THE INPUT: true; the input reads as it did. -/
def leanSurveysSpec : ChangeSpec := { name := "leanSurveys", fn := fun _ => fun
  | [d1, d2] => { results := [.lit (.bool true)], args := [d1, d2] }
  | _ => none }
def leanSurveysRow : OpenClaim := { program := "ytohbejdfaecghaa", sum := "86867e377103978f46fd6d673e3780504d4443bc2f800a1754b2e1d14b40f2eb", func := "steeplejack/steeplejacklaw01.LeanSurveys", spec := "leanSurveys", unfollowed := true, recurses := true, apart := false }
def LeanSurveysSaid : Prop := leanSurveysRow.holds Try.pinned (OpenSpec.ofChange leanSurveysSpec)

/-- ITS FALSE NEIGHBOUR: 'it returns false'. Refute it at one input. -/
def leanSurveysWrong : ChangeSpec := { name := "leanSurveys", fn := fun _ => fun
  | [d1, d2] => { results := [.lit (.bool false)], args := [d1, d2] }
  | _ => none }
def LeanSurveysWrongFalsely : Prop := leanSurveysRow.holds Try.pinned (OpenSpec.ofChange leanSurveysWrong)

/-- 'steeplejacklaw01.LeanFewer': WHATEVER THE INPUT: true; the input reads as it did. -/
def leanFewerSpec : ChangeSpec := { name := "leanFewer", fn := fun _ => fun
  | [d1, d2] => { results := [.lit (.bool true)], args := [d1, d2] }
  | _ => none }
def leanFewerRow : OpenClaim := { program := "ytohbejdfaecghaa", sum := "86867e377103978f46fd6d673e3780504d4443bc2f800a1754b2e1d14b40f2eb", func := "steeplejack/steeplejacklaw01.LeanFewer", spec := "leanFewer", unfollowed := true, recurses := true, apart := false }
def LeanFewerSaid : Prop := leanFewerRow.holds Try.pinned (OpenSpec.ofChange leanFewerSpec)

/-- ITS FALSE NEIGHBOUR: 'it returns false'. Refute it at one input. -/
def leanFewerWrong : ChangeSpec := { name := "leanFewer", fn := fun _ => fun
  | [d1, d2] => { results := [.lit (.bool false)], args := [d1, d2] }
  | _ => none }
def LeanFewerWrongFalsely : Prop := leanFewerRow.holds Try.pinned (OpenSpec.ofChange leanFewerWrong)

/-- 'steeplejacklaw01.LeanProofs': WHATEVER THE INPUT: true; the input reads as it did. -/
def leanProofsSpec : ChangeSpec := { name := "leanProofs", fn := fun _ => fun
  | [d1, d2, d3] => { results := [.lit (.bool true)], args := [d1, d2, d3] }
  | _ => none }
def leanProofsRow : OpenClaim := { program := "ytohbejdfaecghaa", sum := "86867e377103978f46fd6d673e3780504d4443bc2f800a1754b2e1d14b40f2eb", func := "steeplejack/steeplejacklaw01.LeanProofs", spec := "leanProofs", unfollowed := true, recurses := true, apart := false }
def LeanProofsSaid : Prop := leanProofsRow.holds Try.pinned (OpenSpec.ofChange leanProofsSpec)

/-- ITS FALSE NEIGHBOUR: 'it returns false'. Refute it at one input. -/
def leanProofsWrong : ChangeSpec := { name := "leanProofs", fn := fun _ => fun
  | [d1, d2, d3] => { results := [.lit (.bool false)], args := [d1, d2, d3] }
  | _ => none }
def LeanProofsWrongFalsely : Prop := leanProofsRow.holds Try.pinned (OpenSpec.ofChange leanProofsWrong)

/-- 'steeplejacklaw01.LeanRaises': WHATEVER THE INPUT: true; the input reads as it did. -/
def leanRaisesSpec : ChangeSpec := { name := "leanRaises", fn := fun _ => fun
  | [d1, d2] => { results := [.lit (.bool true)], args := [d1, d2] }
  | _ => none }
def leanRaisesRow : OpenClaim := { program := "ytohbejdfaecghaa", sum := "86867e377103978f46fd6d673e3780504d4443bc2f800a1754b2e1d14b40f2eb", func := "steeplejack/steeplejacklaw01.LeanRaises", spec := "leanRaises", unfollowed := true, recurses := true, apart := false }
def LeanRaisesSaid : Prop := leanRaisesRow.holds Try.pinned (OpenSpec.ofChange leanRaisesSpec)

/-- ITS FALSE NEIGHBOUR: 'it returns false'. Refute it at one input. -/
def leanRaisesWrong : ChangeSpec := { name := "leanRaises", fn := fun _ => fun
  | [d1, d2] => { results := [.lit (.bool false)], args := [d1, d2] }
  | _ => none }
def LeanRaisesWrongFalsely : Prop := leanRaisesRow.holds Try.pinned (OpenSpec.ofChange leanRaisesWrong)

/- THE SECOND FORM. 'bulk': how many values and letters a reading holds, each counted each time it is reached (what is shared counts as often as it is met; a slice's spare places count too). A statement '..UptoSaid' is the law's where the arguments, and the package variables that the reading takes, are together of bulk at most 1048576: NARROWER than '..Said'. Prove '..Said' where nothing that the law and all that it calls make is longer than what came in: it says more and counts as full. Else prove '..UptoSaid'. A law counts once. -/
mutual
def uptoBulk {H : Type} : DataW H → Nat
  | .lit (.string bytes) => bytes.length + 1
  | .lit _ => 1
  | .nil => 1
  | .ptr d => uptoBulk d + 1
  | .slice elems spare => uptoBulkAll elems + uptoBulkAll spare + 1
  | .agg parts => uptoBulkAll parts + 1
  | .iface _ d => uptoBulk d + 1
  | .map entries => uptoBulkEntries entries + 1
  | .held _ => 1
def uptoBulkAll {H : Type} : List (DataW H) → Nat
  | [] => 0
  | d :: r => uptoBulk d + uptoBulkAll r
def uptoBulkEntries {H : Type} : List (Lit × DataW H) → Nat
  | [] => 0
  | x :: r => uptoBulkEntry x + uptoBulkEntries r
def uptoBulkEntry {H : Type} : Lit × DataW H → Nat
  | (.string bytes, d) => bytes.length + uptoBulk d + 1
  | (_, d) => uptoBulk d + 1
 end
def uptoSmall : (H : Type) → List (DataW H) → Bool := fun _ ds => decide (uptoBulkAll ds ≤ 1048576)
def OpenSpec.upto (s : _root_.Go.ChangeSpec) : _root_.Go.OpenSpec := { _root_.Go.OpenSpec.ofChange s with cond := some uptoSmall }

/-- 'steeplejacklaw01.LeanCompares', WHERE WHAT IT READS IS OF BULK AT MOST 1048576: true; the input reads as it did. -/
def leanComparesUptoRow : OpenClaim := { program := "ytohbejdfaecghaa", sum := "86867e377103978f46fd6d673e3780504d4443bc2f800a1754b2e1d14b40f2eb", func := "steeplejack/steeplejacklaw01.LeanCompares", spec := "leanCompares", unfollowed := true, recurses := true, apart := false, narrowed := true }
def LeanComparesUptoSaid : Prop := leanComparesUptoRow.holds Try.pinned (OpenSpec.upto leanComparesSpec)

/-- 'steeplejacklaw01.LeanThrough', WHERE WHAT IT READS IS OF BULK AT MOST 1048576: true; the input reads as it did. -/
def leanThroughUptoRow : OpenClaim := { program := "ytohbejdfaecghaa", sum := "86867e377103978f46fd6d673e3780504d4443bc2f800a1754b2e1d14b40f2eb", func := "steeplejack/steeplejacklaw01.LeanThrough", spec := "leanThrough", unfollowed := true, recurses := true, apart := false, narrowed := true }
def LeanThroughUptoSaid : Prop := leanThroughUptoRow.holds Try.pinned (OpenSpec.upto leanThroughSpec)

/-- 'steeplejacklaw01.LeanLines', WHERE WHAT IT READS IS OF BULK AT MOST 1048576: true; the input reads as it did. -/
def leanLinesUptoRow : OpenClaim := { program := "ytohbejdfaecghaa", sum := "86867e377103978f46fd6d673e3780504d4443bc2f800a1754b2e1d14b40f2eb", func := "steeplejack/steeplejacklaw01.LeanLines", spec := "leanLines", unfollowed := true, recurses := true, apart := false, narrowed := true }
def LeanLinesUptoSaid : Prop := leanLinesUptoRow.holds Try.pinned (OpenSpec.upto leanLinesSpec)

/-- 'steeplejacklaw01.LeanWorst', WHERE WHAT IT READS IS OF BULK AT MOST 1048576: true; the input reads as it did. -/
def leanWorstUptoRow : OpenClaim := { program := "ytohbejdfaecghaa", sum := "86867e377103978f46fd6d673e3780504d4443bc2f800a1754b2e1d14b40f2eb", func := "steeplejack/steeplejacklaw01.LeanWorst", spec := "leanWorst", unfollowed := true, recurses := true, apart := false, narrowed := true }
def LeanWorstUptoSaid : Prop := leanWorstUptoRow.holds Try.pinned (OpenSpec.upto leanWorstSpec)

/-- 'steeplejacklaw01.LeanReaches', WHERE WHAT IT READS IS OF BULK AT MOST 1048576: true; the input reads as it did. -/
def leanReachesUptoRow : OpenClaim := { program := "ytohbejdfaecghaa", sum := "86867e377103978f46fd6d673e3780504d4443bc2f800a1754b2e1d14b40f2eb", func := "steeplejack/steeplejacklaw01.LeanReaches", spec := "leanReaches", inPlace := ["math/bits.Add64"], unfollowed := true, recurses := true, apart := false, narrowed := true }
def LeanReachesUptoSaid : Prop := leanReachesUptoRow.holds Try.pinned (OpenSpec.upto leanReachesSpec)

/-- 'steeplejacklaw01.LeanMoves', WHERE WHAT IT READS IS OF BULK AT MOST 1048576: true; the input reads as it did. -/
def leanMovesUptoRow : OpenClaim := { program := "ytohbejdfaecghaa", sum := "86867e377103978f46fd6d673e3780504d4443bc2f800a1754b2e1d14b40f2eb", func := "steeplejack/steeplejacklaw01.LeanMoves", spec := "leanMoves", unfollowed := true, recurses := true, apart := false, narrowed := true }
def LeanMovesUptoSaid : Prop := leanMovesUptoRow.holds Try.pinned (OpenSpec.upto leanMovesSpec)

/-- 'steeplejacklaw01.LeanNearest', WHERE WHAT IT READS IS OF BULK AT MOST 1048576: true; the input reads as it did. -/
def leanNearestUptoRow : OpenClaim := { program := "ytohbejdfaecghaa", sum := "86867e377103978f46fd6d673e3780504d4443bc2f800a1754b2e1d14b40f2eb", func := "steeplejack/steeplejacklaw01.LeanNearest", spec := "leanNearest", unfollowed := true, recurses := true, apart := false, narrowed := true }
def LeanNearestUptoSaid : Prop := leanNearestUptoRow.holds Try.pinned (OpenSpec.upto leanNearestSpec)

/-- 'steeplejacklaw01.LeanLeast', WHERE WHAT IT READS IS OF BULK AT MOST 1048576: true; the input reads as it did. -/
def leanLeastUptoRow : OpenClaim := { program := "ytohbejdfaecghaa", sum := "86867e377103978f46fd6d673e3780504d4443bc2f800a1754b2e1d14b40f2eb", func := "steeplejack/steeplejacklaw01.LeanLeast", spec := "leanLeast", unfollowed := true, recurses := true, apart := false, narrowed := true }
def LeanLeastUptoSaid : Prop := leanLeastUptoRow.holds Try.pinned (OpenSpec.upto leanLeastSpec)

/-- 'steeplejacklaw01.LeanSurveys', WHERE WHAT IT READS IS OF BULK AT MOST 1048576: true; the input reads as it did. -/
def leanSurveysUptoRow : OpenClaim := { program := "ytohbejdfaecghaa", sum := "86867e377103978f46fd6d673e3780504d4443bc2f800a1754b2e1d14b40f2eb", func := "steeplejack/steeplejacklaw01.LeanSurveys", spec := "leanSurveys", unfollowed := true, recurses := true, apart := false, narrowed := true }
def LeanSurveysUptoSaid : Prop := leanSurveysUptoRow.holds Try.pinned (OpenSpec.upto leanSurveysSpec)

/-- 'steeplejacklaw01.LeanFewer', WHERE WHAT IT READS IS OF BULK AT MOST 1048576: true; the input reads as it did. -/
def leanFewerUptoRow : OpenClaim := { program := "ytohbejdfaecghaa", sum := "86867e377103978f46fd6d673e3780504d4443bc2f800a1754b2e1d14b40f2eb", func := "steeplejack/steeplejacklaw01.LeanFewer", spec := "leanFewer", unfollowed := true, recurses := true, apart := false, narrowed := true }
def LeanFewerUptoSaid : Prop := leanFewerUptoRow.holds Try.pinned (OpenSpec.upto leanFewerSpec)

/-- 'steeplejacklaw01.LeanProofs', WHERE WHAT IT READS IS OF BULK AT MOST 1048576: true; the input reads as it did. -/
def leanProofsUptoRow : OpenClaim := { program := "ytohbejdfaecghaa", sum := "86867e377103978f46fd6d673e3780504d4443bc2f800a1754b2e1d14b40f2eb", func := "steeplejack/steeplejacklaw01.LeanProofs", spec := "leanProofs", unfollowed := true, recurses := true, apart := false, narrowed := true }
def LeanProofsUptoSaid : Prop := leanProofsUptoRow.holds Try.pinned (OpenSpec.upto leanProofsSpec)

/-- 'steeplejacklaw01.LeanRaises', WHERE WHAT IT READS IS OF BULK AT MOST 1048576: true; the input reads as it did. -/
def leanRaisesUptoRow : OpenClaim := { program := "ytohbejdfaecghaa", sum := "86867e377103978f46fd6d673e3780504d4443bc2f800a1754b2e1d14b40f2eb", func := "steeplejack/steeplejacklaw01.LeanRaises", spec := "leanRaises", unfollowed := true, recurses := true, apart := false, narrowed := true }
def LeanRaisesUptoSaid : Prop := leanRaisesUptoRow.holds Try.pinned (OpenSpec.upto leanRaisesSpec)

end Rows
end Go.Proofs.Ytohbejdfaecghaa
