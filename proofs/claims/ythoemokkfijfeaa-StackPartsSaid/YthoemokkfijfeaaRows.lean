/-
  No cell of these rows narrows 'for every input' (looked for: loops, veiled, ifaces, maps, wideKeys, modest, calm, conditions, laid).
  DERIVED. THE GIVEN ROWS OF THIS SEAT. 11 by the template 'for every input the law returns true; each argument reads behind the call as it read before'; 0 by the template 'total and deterministic' (their statements: YthoemokkfijfeaaTotals.lean).
  GIVEN WITH THE SEED: the statements are not yours to turn. If you find one false, say at which input.
  Laid BY PROGRAM, IN A SANDBOX (cutbox-rows.mjs): the forced cells as the released guide's own fill.sh prints them over the translation ec160656cb3ce3e0… (all of the seat's roots in one cut). By AI agents, Wed Nov 11 2026. No macro, syntax, notation, axiom, sorry.
-/
import Derived.Test.YthoemokkfijfeaaChecked
import GoSem.Claim
import GoSem.ClaimJoined
import GoSem.ClaimMapViews
import Derived.JoinedTies
import Derived.KernelRfl
namespace Go.Proofs.Ythoemokkfijfeaa
/- THE CELL 'sum', in the pinned program and in every row, IS THE sha256 OF THE DUMP (.gsa) THAT YthoemokkfijfeaaProg.lean LOADS. Nothing in Lean hashes anything: it is a label: what it is worth is what the hold of that sum in a sandbox is worth. -/
noncomputable def Try.pinned : Pinned := { name := "ythoemokkfijfeaa", sum := "ec160656cb3ce3e04710ed8dfcadef690a52ae19d68e5205880da39c0c7ad48a", checked := Try.checked }
namespace Rows
def none {H : Type} : Left H := { results := [], args := [] }

/-- 'steeplejacklaw02.StackSums': WHATEVER THE INPUT: true; the input reads as it did. -/
def stackSumsSpec : ChangeSpec := { name := "stackSums", fn := fun _ => fun
  | [d1, d2] => { results := [.lit (.bool true)], args := [d1, d2] }
  | _ => none }
def stackSumsRow : OpenClaim := { program := "ythoemokkfijfeaa", sum := "ec160656cb3ce3e04710ed8dfcadef690a52ae19d68e5205880da39c0c7ad48a", func := "steeplejack/steeplejacklaw02.StackSums", spec := "stackSums", unfollowed := true, recurses := true, apart := false }
def StackSumsSaid : Prop := stackSumsRow.holds Try.pinned (OpenSpec.ofChange stackSumsSpec)

/-- ITS FALSE NEIGHBOUR: 'it returns false'. Refute it at one input. -/
def stackSumsWrong : ChangeSpec := { name := "stackSums", fn := fun _ => fun
  | [d1, d2] => { results := [.lit (.bool false)], args := [d1, d2] }
  | _ => none }
def StackSumsWrongFalsely : Prop := stackSumsRow.holds Try.pinned (OpenSpec.ofChange stackSumsWrong)

/-- 'steeplejacklaw02.StackParts': WHATEVER THE INPUT: true; the input reads as it did. -/
def stackPartsSpec : ChangeSpec := { name := "stackParts", fn := fun _ => fun
  | [d1, d2, d3] => { results := [.lit (.bool true)], args := [d1, d2, d3] }
  | _ => none }
def stackPartsRow : OpenClaim := { program := "ythoemokkfijfeaa", sum := "ec160656cb3ce3e04710ed8dfcadef690a52ae19d68e5205880da39c0c7ad48a", func := "steeplejack/steeplejacklaw02.StackParts", spec := "stackParts", unfollowed := true, recurses := true, apart := false }
def StackPartsSaid : Prop := stackPartsRow.holds Try.pinned (OpenSpec.ofChange stackPartsSpec)

/-- ITS FALSE NEIGHBOUR: 'it returns false'. Refute it at one input. -/
def stackPartsWrong : ChangeSpec := { name := "stackParts", fn := fun _ => fun
  | [d1, d2, d3] => { results := [.lit (.bool false)], args := [d1, d2, d3] }
  | _ => none }
def StackPartsWrongFalsely : Prop := stackPartsRow.holds Try.pinned (OpenSpec.ofChange stackPartsWrong)

/-- 'steeplejacklaw02.StackMoves': WHATEVER THE INPUT: true; the input reads as it did. -/
def stackMovesSpec : ChangeSpec := { name := "stackMoves", fn := fun _ => fun
  | [d1, d2] => { results := [.lit (.bool true)], args := [d1, d2] }
  | _ => none }
def stackMovesRow : OpenClaim := { program := "ythoemokkfijfeaa", sum := "ec160656cb3ce3e04710ed8dfcadef690a52ae19d68e5205880da39c0c7ad48a", func := "steeplejack/steeplejacklaw02.StackMoves", spec := "stackMoves", unfollowed := true, recurses := true, apart := false }
def StackMovesSaid : Prop := stackMovesRow.holds Try.pinned (OpenSpec.ofChange stackMovesSpec)

/-- ITS FALSE NEIGHBOUR: 'it returns false'. Refute it at one input. -/
def stackMovesWrong : ChangeSpec := { name := "stackMoves", fn := fun _ => fun
  | [d1, d2] => { results := [.lit (.bool false)], args := [d1, d2] }
  | _ => none }
def StackMovesWrongFalsely : Prop := stackMovesRow.holds Try.pinned (OpenSpec.ofChange stackMovesWrong)

/-- 'steeplejacklaw02.StackArms': WHATEVER THE INPUT: true; the input reads as it did. -/
def stackArmsSpec : ChangeSpec := { name := "stackArms", fn := fun _ => fun
  | [d1, d2] => { results := [.lit (.bool true)], args := [d1, d2] }
  | _ => none }
def stackArmsRow : OpenClaim := { program := "ythoemokkfijfeaa", sum := "ec160656cb3ce3e04710ed8dfcadef690a52ae19d68e5205880da39c0c7ad48a", func := "steeplejack/steeplejacklaw02.StackArms", spec := "stackArms", inPlace := ["math/bits.Add64"], unfollowed := true, recurses := true, apart := false }
def StackArmsSaid : Prop := stackArmsRow.holds Try.pinned (OpenSpec.ofChange stackArmsSpec)

/-- ITS FALSE NEIGHBOUR: 'it returns false'. Refute it at one input. -/
def stackArmsWrong : ChangeSpec := { name := "stackArms", fn := fun _ => fun
  | [d1, d2] => { results := [.lit (.bool false)], args := [d1, d2] }
  | _ => none }
def StackArmsWrongFalsely : Prop := stackArmsRow.holds Try.pinned (OpenSpec.ofChange stackArmsWrong)

/-- 'steeplejacklaw02.StackSplits': WHATEVER THE INPUT: true; the input reads as it did. -/
def stackSplitsSpec : ChangeSpec := { name := "stackSplits", fn := fun _ => fun
  | [d1, d2] => { results := [.lit (.bool true)], args := [d1, d2] }
  | _ => none }
def stackSplitsRow : OpenClaim := { program := "ythoemokkfijfeaa", sum := "ec160656cb3ce3e04710ed8dfcadef690a52ae19d68e5205880da39c0c7ad48a", func := "steeplejack/steeplejacklaw02.StackSplits", spec := "stackSplits", unfollowed := true, recurses := true, apart := false }
def StackSplitsSaid : Prop := stackSplitsRow.holds Try.pinned (OpenSpec.ofChange stackSplitsSpec)

/-- ITS FALSE NEIGHBOUR: 'it returns false'. Refute it at one input. -/
def stackSplitsWrong : ChangeSpec := { name := "stackSplits", fn := fun _ => fun
  | [d1, d2] => { results := [.lit (.bool false)], args := [d1, d2] }
  | _ => none }
def StackSplitsWrongFalsely : Prop := stackSplitsRow.holds Try.pinned (OpenSpec.ofChange stackSplitsWrong)

/-- 'steeplejacklaw02.StackMakes': WHATEVER THE INPUT: true; the input reads as it did. -/
def stackMakesSpec : ChangeSpec := { name := "stackMakes", fn := fun _ => fun
  | [d1, d2, d3] => { results := [.lit (.bool true)], args := [d1, d2, d3] }
  | _ => none }
def stackMakesRow : OpenClaim := { program := "ythoemokkfijfeaa", sum := "ec160656cb3ce3e04710ed8dfcadef690a52ae19d68e5205880da39c0c7ad48a", func := "steeplejack/steeplejacklaw02.StackMakes", spec := "stackMakes", unfollowed := true, recurses := true, apart := false }
def StackMakesSaid : Prop := stackMakesRow.holds Try.pinned (OpenSpec.ofChange stackMakesSpec)

/-- ITS FALSE NEIGHBOUR: 'it returns false'. Refute it at one input. -/
def stackMakesWrong : ChangeSpec := { name := "stackMakes", fn := fun _ => fun
  | [d1, d2, d3] => { results := [.lit (.bool false)], args := [d1, d2, d3] }
  | _ => none }
def StackMakesWrongFalsely : Prop := stackMakesRow.holds Try.pinned (OpenSpec.ofChange stackMakesWrong)

/-- 'steeplejacklaw02.StackHolds': WHATEVER THE INPUT: true; the input reads as it did. -/
def stackHoldsSpec : ChangeSpec := { name := "stackHolds", fn := fun _ => fun
  | [d1, d2] => { results := [.lit (.bool true)], args := [d1, d2] }
  | _ => none }
def stackHoldsRow : OpenClaim := { program := "ythoemokkfijfeaa", sum := "ec160656cb3ce3e04710ed8dfcadef690a52ae19d68e5205880da39c0c7ad48a", func := "steeplejack/steeplejacklaw02.StackHolds", spec := "stackHolds", inPlace := ["math/bits.Add64"], unfollowed := true, recurses := true, apart := false }
def StackHoldsSaid : Prop := stackHoldsRow.holds Try.pinned (OpenSpec.ofChange stackHoldsSpec)

/-- ITS FALSE NEIGHBOUR: 'it returns false'. Refute it at one input. -/
def stackHoldsWrong : ChangeSpec := { name := "stackHolds", fn := fun _ => fun
  | [d1, d2] => { results := [.lit (.bool false)], args := [d1, d2] }
  | _ => none }
def StackHoldsWrongFalsely : Prop := stackHoldsRow.holds Try.pinned (OpenSpec.ofChange stackHoldsWrong)

/-- 'steeplejacklaw02.StackOpens': WHATEVER THE INPUT: true; the input reads as it did. -/
def stackOpensSpec : ChangeSpec := { name := "stackOpens", fn := fun _ => fun
  | [d1, d2, d3] => { results := [.lit (.bool true)], args := [d1, d2, d3] }
  | _ => none }
def stackOpensRow : OpenClaim := { program := "ythoemokkfijfeaa", sum := "ec160656cb3ce3e04710ed8dfcadef690a52ae19d68e5205880da39c0c7ad48a", func := "steeplejack/steeplejacklaw02.StackOpens", spec := "stackOpens", inPlace := ["math/bits.Add64"], unfollowed := true, recurses := true, apart := false }
def StackOpensSaid : Prop := stackOpensRow.holds Try.pinned (OpenSpec.ofChange stackOpensSpec)

/-- ITS FALSE NEIGHBOUR: 'it returns false'. Refute it at one input. -/
def stackOpensWrong : ChangeSpec := { name := "stackOpens", fn := fun _ => fun
  | [d1, d2, d3] => { results := [.lit (.bool false)], args := [d1, d2, d3] }
  | _ => none }
def StackOpensWrongFalsely : Prop := stackOpensRow.holds Try.pinned (OpenSpec.ofChange stackOpensWrong)

/-- 'steeplejacklaw02.StackWinds': WHATEVER THE INPUT: true; the input reads as it did. -/
def stackWindsSpec : ChangeSpec := { name := "stackWinds", fn := fun _ => fun
  | [d1, d2, d3] => { results := [.lit (.bool true)], args := [d1, d2, d3] }
  | _ => none }
def stackWindsRow : OpenClaim := { program := "ythoemokkfijfeaa", sum := "ec160656cb3ce3e04710ed8dfcadef690a52ae19d68e5205880da39c0c7ad48a", func := "steeplejack/steeplejacklaw02.StackWinds", spec := "stackWinds", inPlace := ["math/bits.Add64"], unfollowed := true, recurses := true, apart := false }
def StackWindsSaid : Prop := stackWindsRow.holds Try.pinned (OpenSpec.ofChange stackWindsSpec)

/-- ITS FALSE NEIGHBOUR: 'it returns false'. Refute it at one input. -/
def stackWindsWrong : ChangeSpec := { name := "stackWinds", fn := fun _ => fun
  | [d1, d2, d3] => { results := [.lit (.bool false)], args := [d1, d2, d3] }
  | _ => none }
def StackWindsWrongFalsely : Prop := stackWindsRow.holds Try.pinned (OpenSpec.ofChange stackWindsWrong)

/-- 'steeplejacklaw02.StackSafe': WHATEVER THE INPUT: true; the input reads as it did. -/
def stackSafeSpec : ChangeSpec := { name := "stackSafe", fn := fun _ => fun
  | [d1, d2] => { results := [.lit (.bool true)], args := [d1, d2] }
  | _ => none }
def stackSafeRow : OpenClaim := { program := "ythoemokkfijfeaa", sum := "ec160656cb3ce3e04710ed8dfcadef690a52ae19d68e5205880da39c0c7ad48a", func := "steeplejack/steeplejacklaw02.StackSafe", spec := "stackSafe", inPlace := ["math/bits.Add64"], unfollowed := true, recurses := true, apart := false }
def StackSafeSaid : Prop := stackSafeRow.holds Try.pinned (OpenSpec.ofChange stackSafeSpec)

/-- ITS FALSE NEIGHBOUR: 'it returns false'. Refute it at one input. -/
def stackSafeWrong : ChangeSpec := { name := "stackSafe", fn := fun _ => fun
  | [d1, d2] => { results := [.lit (.bool false)], args := [d1, d2] }
  | _ => none }
def StackSafeWrongFalsely : Prop := stackSafeRow.holds Try.pinned (OpenSpec.ofChange stackSafeWrong)

/-- 'steeplejacklaw02.StackTurns': WHATEVER THE INPUT: true; the input reads as it did. -/
def stackTurnsSpec : ChangeSpec := { name := "stackTurns", fn := fun _ => fun
  | [d1, d2, d3] => { results := [.lit (.bool true)], args := [d1, d2, d3] }
  | _ => none }
def stackTurnsRow : OpenClaim := { program := "ythoemokkfijfeaa", sum := "ec160656cb3ce3e04710ed8dfcadef690a52ae19d68e5205880da39c0c7ad48a", func := "steeplejack/steeplejacklaw02.StackTurns", spec := "stackTurns", inPlace := ["math/bits.Add64"], unfollowed := true, recurses := true, apart := false }
def StackTurnsSaid : Prop := stackTurnsRow.holds Try.pinned (OpenSpec.ofChange stackTurnsSpec)

/-- ITS FALSE NEIGHBOUR: 'it returns false'. Refute it at one input. -/
def stackTurnsWrong : ChangeSpec := { name := "stackTurns", fn := fun _ => fun
  | [d1, d2, d3] => { results := [.lit (.bool false)], args := [d1, d2, d3] }
  | _ => none }
def StackTurnsWrongFalsely : Prop := stackTurnsRow.holds Try.pinned (OpenSpec.ofChange stackTurnsWrong)

/- THE SECOND FORM. 'bulk': how many values and letters a reading holds, each counted each time it is reached (what is shared counts as often as it is met; a slice's spare places count too). A statement '..UptoSaid' is the law's where the arguments, and the package variables that the reading takes, are together of bulk at most 1048576: NARROWER than '..Said'. Prove '..Said' where nothing that the law and all that it calls make is longer than what came in: it says more and counts as full. Else prove '..UptoSaid'. A law counts once. -/
mutual
def uptoBulk {H : Type} : DataW H → Nat
  | .lit (.string bytes) => bytes.length + 1
  | .lit _ => 1
  | .nil => 1
  | .ptr d => uptoBulk d + 1
  | .slice elems spare => uptoBulkAll elems + uptoBulkAll spare + 1
  | .agg parts => uptoBulkAll parts + 1
  | .iface _ d => uptoBulk d + 1
  | .map entries => uptoBulkEntries entries + 1
  | .held _ => 1
def uptoBulkAll {H : Type} : List (DataW H) → Nat
  | [] => 0
  | d :: r => uptoBulk d + uptoBulkAll r
def uptoBulkEntries {H : Type} : List (Lit × DataW H) → Nat
  | [] => 0
  | x :: r => uptoBulkEntry x + uptoBulkEntries r
def uptoBulkEntry {H : Type} : Lit × DataW H → Nat
  | (.string bytes, d) => bytes.length + uptoBulk d + 1
  | (_, d) => uptoBulk d + 1
 end
def uptoSmall : (H : Type) → List (DataW H) → Bool := fun _ ds => decide (uptoBulkAll ds ≤ 1048576)
def OpenSpec.upto (s : _root_.Go.ChangeSpec) : _root_.Go.OpenSpec := { _root_.Go.OpenSpec.ofChange s with cond := some uptoSmall }

/-- 'steeplejacklaw02.StackSums', WHERE WHAT IT READS IS OF BULK AT MOST 1048576: true; the input reads as it did. -/
def stackSumsUptoRow : OpenClaim := { program := "ythoemokkfijfeaa", sum := "ec160656cb3ce3e04710ed8dfcadef690a52ae19d68e5205880da39c0c7ad48a", func := "steeplejack/steeplejacklaw02.StackSums", spec := "stackSums", unfollowed := true, recurses := true, apart := false, narrowed := true }
def StackSumsUptoSaid : Prop := stackSumsUptoRow.holds Try.pinned (OpenSpec.upto stackSumsSpec)

/-- 'steeplejacklaw02.StackParts', WHERE WHAT IT READS IS OF BULK AT MOST 1048576: true; the input reads as it did. -/
def stackPartsUptoRow : OpenClaim := { program := "ythoemokkfijfeaa", sum := "ec160656cb3ce3e04710ed8dfcadef690a52ae19d68e5205880da39c0c7ad48a", func := "steeplejack/steeplejacklaw02.StackParts", spec := "stackParts", unfollowed := true, recurses := true, apart := false, narrowed := true }
def StackPartsUptoSaid : Prop := stackPartsUptoRow.holds Try.pinned (OpenSpec.upto stackPartsSpec)

/-- 'steeplejacklaw02.StackMoves', WHERE WHAT IT READS IS OF BULK AT MOST 1048576: true; the input reads as it did. -/
def stackMovesUptoRow : OpenClaim := { program := "ythoemokkfijfeaa", sum := "ec160656cb3ce3e04710ed8dfcadef690a52ae19d68e5205880da39c0c7ad48a", func := "steeplejack/steeplejacklaw02.StackMoves", spec := "stackMoves", unfollowed := true, recurses := true, apart := false, narrowed := true }
def StackMovesUptoSaid : Prop := stackMovesUptoRow.holds Try.pinned (OpenSpec.upto stackMovesSpec)

/-- 'steeplejacklaw02.StackArms', WHERE WHAT IT READS IS OF BULK AT MOST 1048576: true; the input reads as it did. -/
def stackArmsUptoRow : OpenClaim := { program := "ythoemokkfijfeaa", sum := "ec160656cb3ce3e04710ed8dfcadef690a52ae19d68e5205880da39c0c7ad48a", func := "steeplejack/steeplejacklaw02.StackArms", spec := "stackArms", inPlace := ["math/bits.Add64"], unfollowed := true, recurses := true, apart := false, narrowed := true }
def StackArmsUptoSaid : Prop := stackArmsUptoRow.holds Try.pinned (OpenSpec.upto stackArmsSpec)

/-- 'steeplejacklaw02.StackSplits', WHERE WHAT IT READS IS OF BULK AT MOST 1048576: true; the input reads as it did. -/
def stackSplitsUptoRow : OpenClaim := { program := "ythoemokkfijfeaa", sum := "ec160656cb3ce3e04710ed8dfcadef690a52ae19d68e5205880da39c0c7ad48a", func := "steeplejack/steeplejacklaw02.StackSplits", spec := "stackSplits", unfollowed := true, recurses := true, apart := false, narrowed := true }
def StackSplitsUptoSaid : Prop := stackSplitsUptoRow.holds Try.pinned (OpenSpec.upto stackSplitsSpec)

/-- 'steeplejacklaw02.StackMakes', WHERE WHAT IT READS IS OF BULK AT MOST 1048576: true; the input reads as it did. -/
def stackMakesUptoRow : OpenClaim := { program := "ythoemokkfijfeaa", sum := "ec160656cb3ce3e04710ed8dfcadef690a52ae19d68e5205880da39c0c7ad48a", func := "steeplejack/steeplejacklaw02.StackMakes", spec := "stackMakes", unfollowed := true, recurses := true, apart := false, narrowed := true }
def StackMakesUptoSaid : Prop := stackMakesUptoRow.holds Try.pinned (OpenSpec.upto stackMakesSpec)

/-- 'steeplejacklaw02.StackHolds', WHERE WHAT IT READS IS OF BULK AT MOST 1048576: true; the input reads as it did. -/
def stackHoldsUptoRow : OpenClaim := { program := "ythoemokkfijfeaa", sum := "ec160656cb3ce3e04710ed8dfcadef690a52ae19d68e5205880da39c0c7ad48a", func := "steeplejack/steeplejacklaw02.StackHolds", spec := "stackHolds", inPlace := ["math/bits.Add64"], unfollowed := true, recurses := true, apart := false, narrowed := true }
def StackHoldsUptoSaid : Prop := stackHoldsUptoRow.holds Try.pinned (OpenSpec.upto stackHoldsSpec)

/-- 'steeplejacklaw02.StackOpens', WHERE WHAT IT READS IS OF BULK AT MOST 1048576: true; the input reads as it did. -/
def stackOpensUptoRow : OpenClaim := { program := "ythoemokkfijfeaa", sum := "ec160656cb3ce3e04710ed8dfcadef690a52ae19d68e5205880da39c0c7ad48a", func := "steeplejack/steeplejacklaw02.StackOpens", spec := "stackOpens", inPlace := ["math/bits.Add64"], unfollowed := true, recurses := true, apart := false, narrowed := true }
def StackOpensUptoSaid : Prop := stackOpensUptoRow.holds Try.pinned (OpenSpec.upto stackOpensSpec)

/-- 'steeplejacklaw02.StackWinds', WHERE WHAT IT READS IS OF BULK AT MOST 1048576: true; the input reads as it did. -/
def stackWindsUptoRow : OpenClaim := { program := "ythoemokkfijfeaa", sum := "ec160656cb3ce3e04710ed8dfcadef690a52ae19d68e5205880da39c0c7ad48a", func := "steeplejack/steeplejacklaw02.StackWinds", spec := "stackWinds", inPlace := ["math/bits.Add64"], unfollowed := true, recurses := true, apart := false, narrowed := true }
def StackWindsUptoSaid : Prop := stackWindsUptoRow.holds Try.pinned (OpenSpec.upto stackWindsSpec)

/-- 'steeplejacklaw02.StackSafe', WHERE WHAT IT READS IS OF BULK AT MOST 1048576: true; the input reads as it did. -/
def stackSafeUptoRow : OpenClaim := { program := "ythoemokkfijfeaa", sum := "ec160656cb3ce3e04710ed8dfcadef690a52ae19d68e5205880da39c0c7ad48a", func := "steeplejack/steeplejacklaw02.StackSafe", spec := "stackSafe", inPlace := ["math/bits.Add64"], unfollowed := true, recurses := true, apart := false, narrowed := true }
def StackSafeUptoSaid : Prop := stackSafeUptoRow.holds Try.pinned (OpenSpec.upto stackSafeSpec)

/-- 'steeplejacklaw02.StackTurns', WHERE WHAT IT READS IS OF BULK AT MOST 1048576: true; the input reads as it did. -/
def stackTurnsUptoRow : OpenClaim := { program := "ythoemokkfijfeaa", sum := "ec160656cb3ce3e04710ed8dfcadef690a52ae19d68e5205880da39c0c7ad48a", func := "steeplejack/steeplejacklaw02.StackTurns", spec := "stackTurns", inPlace := ["math/bits.Add64"], unfollowed := true, recurses := true, apart := false, narrowed := true }
def StackTurnsUptoSaid : Prop := stackTurnsUptoRow.holds Try.pinned (OpenSpec.upto stackTurnsSpec)

end Rows
end Go.Proofs.Ythoemokkfijfeaa
