/-
  No cell of these rows narrows 'for every input' (looked for: loops, veiled, ifaces, maps, wideKeys, modest, calm, conditions, laid).
  DERIVED. THE GIVEN ROWS OF THIS SEAT. 8 by the template 'for every input the law returns true; each argument reads behind the call as it read before'; 0 by the template 'total and deterministic' (their statements: YtijlglanpgcdiaaTotals.lean).
  GIVEN WITH THE SEED: the statements are not yours to turn. If you find one false, say at which input.
  Laid BY PROGRAM, IN A SANDBOX (cutbox-rows.mjs): the forced cells as the released guide's own fill.sh prints them over the translation 1e273bc7e35e04c5… (all of the seat's roots in one cut). By AI agents, Wed Nov 11 2026. No macro, syntax, notation, axiom, sorry.
-/
import Derived.Test.YtijlglanpgcdiaaChecked
import GoSem.Claim
import GoSem.ClaimJoined
import GoSem.ClaimMapViews
import Derived.JoinedTies
import Derived.KernelRfl
namespace Go.Proofs.Ytijlglanpgcdiaa
/- THE CELL 'sum', in the pinned program and in every row, IS THE sha256 OF THE DUMP (.gsa) THAT YtijlglanpgcdiaaProg.lean LOADS. Nothing in Lean hashes anything: it is a label: what it is worth is what the hold of that sum in a sandbox is worth. -/
noncomputable def Try.pinned : Pinned := { name := "ytijlglanpgcdiaa", sum := "1e273bc7e35e04c5e7466ee65474799f0354efc2d71567c58a3627cd0ce691c1", checked := Try.checked }
namespace Rows
def none {H : Type} : Left H := { results := [], args := [] }

/-- 'steeplejacklaw07.GearFinds': WHATEVER THE INPUT: true; the input reads as it did. -/
def gearFindsSpec : ChangeSpec := { name := "gearFinds", fn := fun _ => fun
  | [d1, d2, d3] => { results := [.lit (.bool true)], args := [d1, d2, d3] }
  | _ => none }
def gearFindsRow : OpenClaim := { program := "ytijlglanpgcdiaa", sum := "1e273bc7e35e04c5e7466ee65474799f0354efc2d71567c58a3627cd0ce691c1", func := "steeplejack/steeplejacklaw07.GearFinds", spec := "gearFinds", unfollowed := true, recurses := true, apart := false }
def GearFindsSaid : Prop := gearFindsRow.holds Try.pinned (OpenSpec.ofChange gearFindsSpec)

/-- ITS FALSE NEIGHBOUR: 'it returns false'. Refute it at one input. -/
def gearFindsWrong : ChangeSpec := { name := "gearFinds", fn := fun _ => fun
  | [d1, d2, d3] => { results := [.lit (.bool false)], args := [d1, d2, d3] }
  | _ => none }
def GearFindsWrongFalsely : Prop := gearFindsRow.holds Try.pinned (OpenSpec.ofChange gearFindsWrong)

/-- 'steeplejacklaw07.GearChanges': WHATEVER THE INPUT: true; the input reads as it did. -/
def gearChangesSpec : ChangeSpec := { name := "gearChanges", fn := fun _ => fun
  | [d1, d2, d3, d4, d5] => { results := [.lit (.bool true)], args := [d1, d2, d3, d4, d5] }
  | _ => none }
def gearChangesRow : OpenClaim := { program := "ytijlglanpgcdiaa", sum := "1e273bc7e35e04c5e7466ee65474799f0354efc2d71567c58a3627cd0ce691c1", func := "steeplejack/steeplejacklaw07.GearChanges", spec := "gearChanges", unfollowed := true, recurses := true, apart := false }
def GearChangesSaid : Prop := gearChangesRow.holds Try.pinned (OpenSpec.ofChange gearChangesSpec)

/-- ITS FALSE NEIGHBOUR: 'it returns false'. Refute it at one input. -/
def gearChangesWrong : ChangeSpec := { name := "gearChanges", fn := fun _ => fun
  | [d1, d2, d3, d4, d5] => { results := [.lit (.bool false)], args := [d1, d2, d3, d4, d5] }
  | _ => none }
def GearChangesWrongFalsely : Prop := gearChangesRow.holds Try.pinned (OpenSpec.ofChange gearChangesWrong)

/-- 'steeplejacklaw07.GearBears': WHATEVER THE INPUT: true; the input reads as it did. -/
def gearBearsSpec : ChangeSpec := { name := "gearBears", fn := fun _ => fun
  | [d1, d2, d3] => { results := [.lit (.bool true)], args := [d1, d2, d3] }
  | _ => none }
def gearBearsRow : OpenClaim := { program := "ytijlglanpgcdiaa", sum := "1e273bc7e35e04c5e7466ee65474799f0354efc2d71567c58a3627cd0ce691c1", func := "steeplejack/steeplejacklaw07.GearBears", spec := "gearBears", unfollowed := true, recurses := true, apart := false }
def GearBearsSaid : Prop := gearBearsRow.holds Try.pinned (OpenSpec.ofChange gearBearsSpec)

/-- ITS FALSE NEIGHBOUR: 'it returns false'. Refute it at one input. -/
def gearBearsWrong : ChangeSpec := { name := "gearBears", fn := fun _ => fun
  | [d1, d2, d3] => { results := [.lit (.bool false)], args := [d1, d2, d3] }
  | _ => none }
def GearBearsWrongFalsely : Prop := gearBearsRow.holds Try.pinned (OpenSpec.ofChange gearBearsWrong)

/-- 'steeplejacklaw07.GearMost': WHATEVER THE INPUT: true; the input reads as it did. -/
def gearMostSpec : ChangeSpec := { name := "gearMost", fn := fun _ => fun
  | [d1, d2, d3, d4] => { results := [.lit (.bool true)], args := [d1, d2, d3, d4] }
  | _ => none }
def gearMostRow : OpenClaim := { program := "ytijlglanpgcdiaa", sum := "1e273bc7e35e04c5e7466ee65474799f0354efc2d71567c58a3627cd0ce691c1", func := "steeplejack/steeplejacklaw07.GearMost", spec := "gearMost", unfollowed := true, recurses := true, apart := false }
def GearMostSaid : Prop := gearMostRow.holds Try.pinned (OpenSpec.ofChange gearMostSpec)

/-- ITS FALSE NEIGHBOUR: 'it returns false'. Refute it at one input. -/
def gearMostWrong : ChangeSpec := { name := "gearMost", fn := fun _ => fun
  | [d1, d2, d3, d4] => { results := [.lit (.bool false)], args := [d1, d2, d3, d4] }
  | _ => none }
def GearMostWrongFalsely : Prop := gearMostRow.holds Try.pinned (OpenSpec.ofChange gearMostWrong)

/-- 'steeplejacklaw07.GearMay': WHATEVER THE INPUT: true; the input reads as it did. -/
def gearMaySpec : ChangeSpec := { name := "gearMay", fn := fun _ => fun
  | [d1, d2, d3, d4, d5] => { results := [.lit (.bool true)], args := [d1, d2, d3, d4, d5] }
  | _ => none }
def gearMayRow : OpenClaim := { program := "ytijlglanpgcdiaa", sum := "1e273bc7e35e04c5e7466ee65474799f0354efc2d71567c58a3627cd0ce691c1", func := "steeplejack/steeplejacklaw07.GearMay", spec := "gearMay", unfollowed := true, recurses := true, apart := false }
def GearMaySaid : Prop := gearMayRow.holds Try.pinned (OpenSpec.ofChange gearMaySpec)

/-- ITS FALSE NEIGHBOUR: 'it returns false'. Refute it at one input. -/
def gearMayWrong : ChangeSpec := { name := "gearMay", fn := fun _ => fun
  | [d1, d2, d3, d4, d5] => { results := [.lit (.bool false)], args := [d1, d2, d3, d4, d5] }
  | _ => none }
def GearMayWrongFalsely : Prop := gearMayRow.holds Try.pinned (OpenSpec.ofChange gearMayWrong)

/-- 'steeplejacklaw07.GearLess': WHATEVER THE INPUT: true; the input reads as it did. -/
def gearLessSpec : ChangeSpec := { name := "gearLess", fn := fun _ => fun
  | [d1, d2, d3, d4, d5, d6, d7] => { results := [.lit (.bool true)], args := [d1, d2, d3, d4, d5, d6, d7] }
  | _ => none }
def gearLessRow : OpenClaim := { program := "ytijlglanpgcdiaa", sum := "1e273bc7e35e04c5e7466ee65474799f0354efc2d71567c58a3627cd0ce691c1", func := "steeplejack/steeplejacklaw07.GearLess", spec := "gearLess", unfollowed := true, recurses := true, apart := false }
def GearLessSaid : Prop := gearLessRow.holds Try.pinned (OpenSpec.ofChange gearLessSpec)

/-- ITS FALSE NEIGHBOUR: 'it returns false'. Refute it at one input. -/
def gearLessWrong : ChangeSpec := { name := "gearLess", fn := fun _ => fun
  | [d1, d2, d3, d4, d5, d6, d7] => { results := [.lit (.bool false)], args := [d1, d2, d3, d4, d5, d6, d7] }
  | _ => none }
def GearLessWrongFalsely : Prop := gearLessRow.holds Try.pinned (OpenSpec.ofChange gearLessWrong)

/-- 'steeplejacklaw07.GearCalls': WHATEVER THE INPUT: true; the input reads as it did. -/
def gearCallsSpec : ChangeSpec := { name := "gearCalls", fn := fun _ => fun
  | [d1, d2, d3, d4, d5] => { results := [.lit (.bool true)], args := [d1, d2, d3, d4, d5] }
  | _ => none }
def gearCallsRow : OpenClaim := { program := "ytijlglanpgcdiaa", sum := "1e273bc7e35e04c5e7466ee65474799f0354efc2d71567c58a3627cd0ce691c1", func := "steeplejack/steeplejacklaw07.GearCalls", spec := "gearCalls", unfollowed := true, recurses := true, apart := false }
def GearCallsSaid : Prop := gearCallsRow.holds Try.pinned (OpenSpec.ofChange gearCallsSpec)

/-- ITS FALSE NEIGHBOUR: 'it returns false'. Refute it at one input. -/
def gearCallsWrong : ChangeSpec := { name := "gearCalls", fn := fun _ => fun
  | [d1, d2, d3, d4, d5] => { results := [.lit (.bool false)], args := [d1, d2, d3, d4, d5] }
  | _ => none }
def GearCallsWrongFalsely : Prop := gearCallsRow.holds Try.pinned (OpenSpec.ofChange gearCallsWrong)

/-- 'steeplejacktop.TopRigs': WHATEVER THE INPUT: true; the input reads as it did. -/
def topRigsSpec : ChangeSpec := { name := "topRigs", fn := fun _ => fun
  | [d1, d2, d3] => { results := [.lit (.bool true)], args := [d1, d2, d3] }
  | _ => none }
def topRigsRow : OpenClaim := { program := "ytijlglanpgcdiaa", sum := "1e273bc7e35e04c5e7466ee65474799f0354efc2d71567c58a3627cd0ce691c1", func := "steeplejack/steeplejacktop.TopRigs", spec := "topRigs", unfollowed := true, recurses := true, apart := false }
def TopRigsSaid : Prop := topRigsRow.holds Try.pinned (OpenSpec.ofChange topRigsSpec)

/-- ITS FALSE NEIGHBOUR: 'it returns false'. Refute it at one input. -/
def topRigsWrong : ChangeSpec := { name := "topRigs", fn := fun _ => fun
  | [d1, d2, d3] => { results := [.lit (.bool false)], args := [d1, d2, d3] }
  | _ => none }
def TopRigsWrongFalsely : Prop := topRigsRow.holds Try.pinned (OpenSpec.ofChange topRigsWrong)

/- THE SECOND FORM. 'bulk': how many values and letters a reading holds, each counted each time it is reached (what is shared counts as often as it is met; a slice's spare places count too). A statement '..UptoSaid' is the law's where the arguments, and the package variables that the reading takes, are together of bulk at most 1048576: NARROWER than '..Said'. Prove '..Said' where nothing that the law and all that it calls make is longer than what came in: it says more and counts as full. Else prove '..UptoSaid'. A law counts once. -/
mutual
def uptoBulk {H : Type} : DataW H → Nat
  | .lit (.string bytes) => bytes.length + 1
  | .lit _ => 1
  | .nil => 1
  | .ptr d => uptoBulk d + 1
  | .slice elems spare => uptoBulkAll elems + uptoBulkAll spare + 1
  | .agg parts => uptoBulkAll parts + 1
  | .iface _ d => uptoBulk d + 1
  | .map entries => uptoBulkEntries entries + 1
  | .held _ => 1
def uptoBulkAll {H : Type} : List (DataW H) → Nat
  | [] => 0
  | d :: r => uptoBulk d + uptoBulkAll r
def uptoBulkEntries {H : Type} : List (Lit × DataW H) → Nat
  | [] => 0
  | x :: r => uptoBulkEntry x + uptoBulkEntries r
def uptoBulkEntry {H : Type} : Lit × DataW H → Nat
  | (.string bytes, d) => bytes.length + uptoBulk d + 1
  | (_, d) => uptoBulk d + 1
 end
def uptoSmall : (H : Type) → List (DataW H) → Bool := fun _ ds => decide (uptoBulkAll ds ≤ 1048576)
def OpenSpec.upto (s : _root_.Go.ChangeSpec) : _root_.Go.OpenSpec := { _root_.Go.OpenSpec.ofChange s with cond := some uptoSmall }

/-- 'steeplejacklaw07.GearFinds', WHERE WHAT IT READS IS OF BULK AT MOST 1048576: true; the input reads as it did. -/
def gearFindsUptoRow : OpenClaim := { program := "ytijlglanpgcdiaa", sum := "1e273bc7e35e04c5e7466ee65474799f0354efc2d71567c58a3627cd0ce691c1", func := "steeplejack/steeplejacklaw07.GearFinds", spec := "gearFinds", unfollowed := true, recurses := true, apart := false, narrowed := true }
def GearFindsUptoSaid : Prop := gearFindsUptoRow.holds Try.pinned (OpenSpec.upto gearFindsSpec)

/-- 'steeplejacklaw07.GearChanges', WHERE WHAT IT READS IS OF BULK AT MOST 1048576: true; the input reads as it did. -/
def gearChangesUptoRow : OpenClaim := { program := "ytijlglanpgcdiaa", sum := "1e273bc7e35e04c5e7466ee65474799f0354efc2d71567c58a3627cd0ce691c1", func := "steeplejack/steeplejacklaw07.GearChanges", spec := "gearChanges", unfollowed := true, recurses := true, apart := false, narrowed := true }
def GearChangesUptoSaid : Prop := gearChangesUptoRow.holds Try.pinned (OpenSpec.upto gearChangesSpec)

/-- 'steeplejacklaw07.GearBears', WHERE WHAT IT READS IS OF BULK AT MOST 1048576: true; the input reads as it did. -/
def gearBearsUptoRow : OpenClaim := { program := "ytijlglanpgcdiaa", sum := "1e273bc7e35e04c5e7466ee65474799f0354efc2d71567c58a3627cd0ce691c1", func := "steeplejack/steeplejacklaw07.GearBears", spec := "gearBears", unfollowed := true, recurses := true, apart := false, narrowed := true }
def GearBearsUptoSaid : Prop := gearBearsUptoRow.holds Try.pinned (OpenSpec.upto gearBearsSpec)

/-- 'steeplejacklaw07.GearMost', WHERE WHAT IT READS IS OF BULK AT MOST 1048576: true; the input reads as it did. -/
def gearMostUptoRow : OpenClaim := { program := "ytijlglanpgcdiaa", sum := "1e273bc7e35e04c5e7466ee65474799f0354efc2d71567c58a3627cd0ce691c1", func := "steeplejack/steeplejacklaw07.GearMost", spec := "gearMost", unfollowed := true, recurses := true, apart := false, narrowed := true }
def GearMostUptoSaid : Prop := gearMostUptoRow.holds Try.pinned (OpenSpec.upto gearMostSpec)

/-- 'steeplejacklaw07.GearMay', WHERE WHAT IT READS IS OF BULK AT MOST 1048576: true; the input reads as it did. -/
def gearMayUptoRow : OpenClaim := { program := "ytijlglanpgcdiaa", sum := "1e273bc7e35e04c5e7466ee65474799f0354efc2d71567c58a3627cd0ce691c1", func := "steeplejack/steeplejacklaw07.GearMay", spec := "gearMay", unfollowed := true, recurses := true, apart := false, narrowed := true }
def GearMayUptoSaid : Prop := gearMayUptoRow.holds Try.pinned (OpenSpec.upto gearMaySpec)

/-- 'steeplejacklaw07.GearLess', WHERE WHAT IT READS IS OF BULK AT MOST 1048576: true; the input reads as it did. -/
def gearLessUptoRow : OpenClaim := { program := "ytijlglanpgcdiaa", sum := "1e273bc7e35e04c5e7466ee65474799f0354efc2d71567c58a3627cd0ce691c1", func := "steeplejack/steeplejacklaw07.GearLess", spec := "gearLess", unfollowed := true, recurses := true, apart := false, narrowed := true }
def GearLessUptoSaid : Prop := gearLessUptoRow.holds Try.pinned (OpenSpec.upto gearLessSpec)

/-- 'steeplejacklaw07.GearCalls', WHERE WHAT IT READS IS OF BULK AT MOST 1048576: true; the input reads as it did. -/
def gearCallsUptoRow : OpenClaim := { program := "ytijlglanpgcdiaa", sum := "1e273bc7e35e04c5e7466ee65474799f0354efc2d71567c58a3627cd0ce691c1", func := "steeplejack/steeplejacklaw07.GearCalls", spec := "gearCalls", unfollowed := true, recurses := true, apart := false, narrowed := true }
def GearCallsUptoSaid : Prop := gearCallsUptoRow.holds Try.pinned (OpenSpec.upto gearCallsSpec)

/-- 'steeplejacktop.TopRigs', WHERE WHAT IT READS IS OF BULK AT MOST 1048576: true; the input reads as it did. -/
def topRigsUptoRow : OpenClaim := { program := "ytijlglanpgcdiaa", sum := "1e273bc7e35e04c5e7466ee65474799f0354efc2d71567c58a3627cd0ce691c1", func := "steeplejack/steeplejacktop.TopRigs", spec := "topRigs", unfollowed := true, recurses := true, apart := false, narrowed := true }
def TopRigsUptoSaid : Prop := topRigsUptoRow.holds Try.pinned (OpenSpec.upto topRigsSpec)

end Rows
end Go.Proofs.Ytijlglanpgcdiaa
