/- Wind: windowed, Sure, Missing, Kept by the program. -/
import Derived.Test.YtoelekhkgknneaaDoorVg
set_option linter.unusedSimpArgs false
set_option linter.unusedVariables false
namespace Go.Proofs.YtoelekhkgknneaaDoor
open Go.RowKit

def wdE (c : List Ca) (mk n fr to : Int) : Int := if vCa c = true then (if wn mk 1 200 = true ∧ wn n 1 10000 = true ∧ wn fr 0 to = true ∧ to ≤ 100000 then 0 else 7) else 1
theorem wdE_z {c : List Ca} {mk n fr to : Int} (h : wdE c mk n fr to = 0) : vCa c = true ∧ (1 ≤ mk ∧ mk ≤ 200) ∧ (1 ≤ n ∧ n ≤ 10000) ∧ (0 ≤ fr ∧ fr ≤ to) ∧ to ≤ 100000 := by
  unfold wdE at h
  split at h
  · split at h
    · rename_i h1 h2
      exact ⟨h1, wn_iff.1 h2.1, wn_iff.1 h2.2.1, wn_iff.1 h2.2.2.1, h2.2.2.2⟩
    · omega
  · omega
/-- a minute that is surely below a mark -/
def suQ (mk : Int) (o : Option Ca) : Bool := match o with | some x => decide (x.hi < mk) | none => false
def sfI (q : Option Ca → Bool) (c : List Ca) (mk n fr to : Int) : Int := if wdE c mk n fr to = 0 then winI (fun t => q (ctO c t)) n fr to else 0
def sfE (q : Option Ca → Bool) (c : List Ca) (mk n fr to : Int) : Int := if wdE c mk n fr to = 0 then winE (fun t => q (ctO c t)) n fr to else wdE c mk n fr to
/-- Missing -/
def msP (l : List Int) (k : Nat) : Bool := l.getD k 0 == -1
def msE (l : List Int) : Int := if vGu l = true then 0 else 1
def msL (l : List Int) : List Sp := if msE l = 0 then spS (msP l) l.length else []
def GotP (w' : World) (v : Value) (l : List Sp) : Prop := ∃ A c, v = .slice A l.length c ∧ Rd pC 2 w' A l
theorem gotP_nil (w' : World) : GotP w' (.slice none 0 0) [] := ⟨none, 0, rfl, fun h => absurd rfl h⟩
end Go.Proofs.YtoelekhkgknneaaDoor
