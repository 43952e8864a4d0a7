/-
  No cell of these rows narrows 'for every input' (looked for: loops, veiled, ifaces, maps, wideKeys, modest, calm, conditions, laid).
  DERIVED. THE GIVEN ROWS OF THIS SEAT. 5 by the template 'for every input the law returns true; each argument reads behind the call as it read before'; 0 by the template 'total and deterministic' (their statements: YtkeojokbpjdhpaaTotals.lean).
  GIVEN WITH THE SEED: the statements are not yours to turn. If you find one false, say at which input.
  Laid BY PROGRAM, IN A SANDBOX (cutbox-rows.mjs): the forced cells as the released guide's own fill.sh prints them over the translation 54071735209e284d… (all of the seat's roots in one cut). By AI agents, Wed Nov 11 2026. No macro, syntax, notation, axiom, sorry.
-/
import Derived.Test.YtkeojokbpjdhpaaChecked
import GoSem.Claim
import GoSem.ClaimJoined
import GoSem.ClaimMapViews
import Derived.JoinedTies
import Derived.KernelRfl
namespace Go.Proofs.Ytkeojokbpjdhpaa
/- THE CELL 'sum', in the pinned program and in every row, IS THE sha256 OF THE DUMP (.gsa) THAT YtkeojokbpjdhpaaProg.lean LOADS. Nothing in Lean hashes anything: it is a label: what it is worth is what the hold of that sum in a sandbox is worth. -/
noncomputable def Try.pinned : Pinned := { name := "ytkeojokbpjdhpaa", sum := "54071735209e284dcbe6ac8661e3a07280e5336f53245164e4b07f3f5cf431d9", checked := Try.checked }
namespace Rows
def none {H : Type} : Left H := { results := [], args := [] }

/-- 'steeplejacklaw06.FellMore': WHATEVER THE INPUT: true; the input reads as it did. -/
def fellMoreSpec : ChangeSpec := { name := "fellMore", fn := fun _ => fun
  | [d1, d2, d3] => { results := [.lit (.bool true)], args := [d1, d2, d3] }
  | _ => none }
def fellMoreRow : OpenClaim := { program := "ytkeojokbpjdhpaa", sum := "54071735209e284dcbe6ac8661e3a07280e5336f53245164e4b07f3f5cf431d9", func := "steeplejack/steeplejacklaw06.FellMore", spec := "fellMore", unfollowed := true, recurses := true, plainKeys := false, apart := false }
def FellMoreSaid : Prop := fellMoreRow.holds Try.pinned (OpenSpec.ofChange fellMoreSpec)

/-- ITS FALSE NEIGHBOUR: 'it returns false'. Refute it at one input. -/
def fellMoreWrong : ChangeSpec := { name := "fellMore", fn := fun _ => fun
  | [d1, d2, d3] => { results := [.lit (.bool false)], args := [d1, d2, d3] }
  | _ => none }
def FellMoreWrongFalsely : Prop := fellMoreRow.holds Try.pinned (OpenSpec.ofChange fellMoreWrong)

/-- 'steeplejacklaw06.FellFeet': WHATEVER THE INPUT: true; the input reads as it did. -/
def fellFeetSpec : ChangeSpec := { name := "fellFeet", fn := fun _ => fun
  | [d1, d2] => { results := [.lit (.bool true)], args := [d1, d2] }
  | _ => none }
def fellFeetRow : OpenClaim := { program := "ytkeojokbpjdhpaa", sum := "54071735209e284dcbe6ac8661e3a07280e5336f53245164e4b07f3f5cf431d9", func := "steeplejack/steeplejacklaw06.FellFeet", spec := "fellFeet", unfollowed := true, recurses := true, plainKeys := false, apart := false }
def FellFeetSaid : Prop := fellFeetRow.holds Try.pinned (OpenSpec.ofChange fellFeetSpec)

/-- ITS FALSE NEIGHBOUR: 'it returns false'. Refute it at one input. -/
def fellFeetWrong : ChangeSpec := { name := "fellFeet", fn := fun _ => fun
  | [d1, d2] => { results := [.lit (.bool false)], args := [d1, d2] }
  | _ => none }
def FellFeetWrongFalsely : Prop := fellFeetRow.holds Try.pinned (OpenSpec.ofChange fellFeetWrong)

/-- 'steeplejacklaw06.FellWays': WHATEVER THE INPUT: true; the input reads as it did. -/
def fellWaysSpec : ChangeSpec := { name := "fellWays", fn := fun _ => fun
  | [d1, d2, d3] => { results := [.lit (.bool true)], args := [d1, d2, d3] }
  | _ => none }
def fellWaysRow : OpenClaim := { program := "ytkeojokbpjdhpaa", sum := "54071735209e284dcbe6ac8661e3a07280e5336f53245164e4b07f3f5cf431d9", func := "steeplejack/steeplejacklaw06.FellWays", spec := "fellWays", unfollowed := true, recurses := true, plainKeys := false, apart := false }
def FellWaysSaid : Prop := fellWaysRow.holds Try.pinned (OpenSpec.ofChange fellWaysSpec)

/-- ITS FALSE NEIGHBOUR: 'it returns false'. Refute it at one input. -/
def fellWaysWrong : ChangeSpec := { name := "fellWays", fn := fun _ => fun
  | [d1, d2, d3] => { results := [.lit (.bool false)], args := [d1, d2, d3] }
  | _ => none }
def FellWaysWrongFalsely : Prop := fellWaysRow.holds Try.pinned (OpenSpec.ofChange fellWaysWrong)

/-- 'steeplejacklaw06.FellZones': WHATEVER THE INPUT: true; the input reads as it did. -/
def fellZonesSpec : ChangeSpec := { name := "fellZones", fn := fun _ => fun
  | [d1, d2, d3, d4, d5] => { results := [.lit (.bool true)], args := [d1, d2, d3, d4, d5] }
  | _ => none }
def fellZonesRow : OpenClaim := { program := "ytkeojokbpjdhpaa", sum := "54071735209e284dcbe6ac8661e3a07280e5336f53245164e4b07f3f5cf431d9", func := "steeplejack/steeplejacklaw06.FellZones", spec := "fellZones", unfollowed := true, recurses := true, plainKeys := false, apart := false }
def FellZonesSaid : Prop := fellZonesRow.holds Try.pinned (OpenSpec.ofChange fellZonesSpec)

/-- ITS FALSE NEIGHBOUR: 'it returns false'. Refute it at one input. -/
def fellZonesWrong : ChangeSpec := { name := "fellZones", fn := fun _ => fun
  | [d1, d2, d3, d4, d5] => { results := [.lit (.bool false)], args := [d1, d2, d3, d4, d5] }
  | _ => none }
def FellZonesWrongFalsely : Prop := fellZonesRow.holds Try.pinned (OpenSpec.ofChange fellZonesWrong)

/-- 'steeplejacklaw06.FellWidest': WHATEVER THE INPUT: true; the input reads as it did. -/
def fellWidestSpec : ChangeSpec := { name := "fellWidest", fn := fun _ => fun
  | [d1, d2, d3, d4] => { results := [.lit (.bool true)], args := [d1, d2, d3, d4] }
  | _ => none }
def fellWidestRow : OpenClaim := { program := "ytkeojokbpjdhpaa", sum := "54071735209e284dcbe6ac8661e3a07280e5336f53245164e4b07f3f5cf431d9", func := "steeplejack/steeplejacklaw06.FellWidest", spec := "fellWidest", unfollowed := true, recurses := true, plainKeys := false, apart := false }
def FellWidestSaid : Prop := fellWidestRow.holds Try.pinned (OpenSpec.ofChange fellWidestSpec)

/-- ITS FALSE NEIGHBOUR: 'it returns false'. Refute it at one input. -/
def fellWidestWrong : ChangeSpec := { name := "fellWidest", fn := fun _ => fun
  | [d1, d2, d3, d4] => { results := [.lit (.bool false)], args := [d1, d2, d3, d4] }
  | _ => none }
def FellWidestWrongFalsely : Prop := fellWidestRow.holds Try.pinned (OpenSpec.ofChange fellWidestWrong)

/- THE SECOND FORM. 'bulk': how many values and letters a reading holds, each counted each time it is reached (what is shared counts as often as it is met; a slice's spare places count too). A statement '..UptoSaid' is the law's where the arguments, and the package variables that the reading takes, are together of bulk at most 1048576: NARROWER than '..Said'. Prove '..Said' where nothing that the law and all that it calls make is longer than what came in: it says more and counts as full. Else prove '..UptoSaid'. A law counts once. -/
mutual
def uptoBulk {H : Type} : DataW H → Nat
  | .lit (.string bytes) => bytes.length + 1
  | .lit _ => 1
  | .nil => 1
  | .ptr d => uptoBulk d + 1
  | .slice elems spare => uptoBulkAll elems + uptoBulkAll spare + 1
  | .agg parts => uptoBulkAll parts + 1
  | .iface _ d => uptoBulk d + 1
  | .map entries => uptoBulkEntries entries + 1
  | .held _ => 1
def uptoBulkAll {H : Type} : List (DataW H) → Nat
  | [] => 0
  | d :: r => uptoBulk d + uptoBulkAll r
def uptoBulkEntries {H : Type} : List (Lit × DataW H) → Nat
  | [] => 0
  | x :: r => uptoBulkEntry x + uptoBulkEntries r
def uptoBulkEntry {H : Type} : Lit × DataW H → Nat
  | (.string bytes, d) => bytes.length + uptoBulk d + 1
  | (_, d) => uptoBulk d + 1
 end
def uptoSmall : (H : Type) → List (DataW H) → Bool := fun _ ds => decide (uptoBulkAll ds ≤ 1048576)
def OpenSpec.upto (s : _root_.Go.ChangeSpec) : _root_.Go.OpenSpec := { _root_.Go.OpenSpec.ofChange s with cond := some uptoSmall }

/-- 'steeplejacklaw06.FellMore', WHERE WHAT IT READS IS OF BULK AT MOST 1048576: true; the input reads as it did. -/
def fellMoreUptoRow : OpenClaim := { program := "ytkeojokbpjdhpaa", sum := "54071735209e284dcbe6ac8661e3a07280e5336f53245164e4b07f3f5cf431d9", func := "steeplejack/steeplejacklaw06.FellMore", spec := "fellMore", unfollowed := true, recurses := true, plainKeys := false, apart := false, narrowed := true }
def FellMoreUptoSaid : Prop := fellMoreUptoRow.holds Try.pinned (OpenSpec.upto fellMoreSpec)

/-- 'steeplejacklaw06.FellFeet', WHERE WHAT IT READS IS OF BULK AT MOST 1048576: true; the input reads as it did. -/
def fellFeetUptoRow : OpenClaim := { program := "ytkeojokbpjdhpaa", sum := "54071735209e284dcbe6ac8661e3a07280e5336f53245164e4b07f3f5cf431d9", func := "steeplejack/steeplejacklaw06.FellFeet", spec := "fellFeet", unfollowed := true, recurses := true, plainKeys := false, apart := false, narrowed := true }
def FellFeetUptoSaid : Prop := fellFeetUptoRow.holds Try.pinned (OpenSpec.upto fellFeetSpec)

/-- 'steeplejacklaw06.FellWays', WHERE WHAT IT READS IS OF BULK AT MOST 1048576: true; the input reads as it did. -/
def fellWaysUptoRow : OpenClaim := { program := "ytkeojokbpjdhpaa", sum := "54071735209e284dcbe6ac8661e3a07280e5336f53245164e4b07f3f5cf431d9", func := "steeplejack/steeplejacklaw06.FellWays", spec := "fellWays", unfollowed := true, recurses := true, plainKeys := false, apart := false, narrowed := true }
def FellWaysUptoSaid : Prop := fellWaysUptoRow.holds Try.pinned (OpenSpec.upto fellWaysSpec)

/-- 'steeplejacklaw06.FellZones', WHERE WHAT IT READS IS OF BULK AT MOST 1048576: true; the input reads as it did. -/
def fellZonesUptoRow : OpenClaim := { program := "ytkeojokbpjdhpaa", sum := "54071735209e284dcbe6ac8661e3a07280e5336f53245164e4b07f3f5cf431d9", func := "steeplejack/steeplejacklaw06.FellZones", spec := "fellZones", unfollowed := true, recurses := true, plainKeys := false, apart := false, narrowed := true }
def FellZonesUptoSaid : Prop := fellZonesUptoRow.holds Try.pinned (OpenSpec.upto fellZonesSpec)

/-- 'steeplejacklaw06.FellWidest', WHERE WHAT IT READS IS OF BULK AT MOST 1048576: true; the input reads as it did. -/
def fellWidestUptoRow : OpenClaim := { program := "ytkeojokbpjdhpaa", sum := "54071735209e284dcbe6ac8661e3a07280e5336f53245164e4b07f3f5cf431d9", func := "steeplejack/steeplejacklaw06.FellWidest", spec := "fellWidest", unfollowed := true, recurses := true, plainKeys := false, apart := false, narrowed := true }
def FellWidestUptoSaid : Prop := fellWidestUptoRow.holds Try.pinned (OpenSpec.upto fellWidestSpec)

end Rows
end Go.Proofs.Ytkeojokbpjdhpaa
