/- Fell: asked and listed of the reference; things of the program. -/
import Derived.Test.YthklgkgincebhaaGreatDoorFd
set_option linter.unusedSimpArgs false
set_option linter.unusedVariables false
namespace Go.Proofs.YthklgkgincebhaaGreatDoor
open Go.RowKit

def askE (l : List Pr) (s : List Sp) : Int := if vP l = true then (if s.all isS = true then 0 else 7) else 1
theorem askE_z {l : List Pr} {s : List Sp} (h : askE l s = 0) : vP l = true ∧ s.all isS = true := by
  unfold askE at h
  split at h
  · split at h
    · exact ⟨by assumption, by assumption⟩
    · omega
  · omega
theorem askE_ok {l : List Pr} {s : List Sp} (h1 : vP l = true) (h2 : s.all isS = true) : askE l s = 0 := by unfold askE; rw [if_pos h1, if_pos h2]
theorem askE_one {l : List Pr} {s : List Sp} (h1 : vP l = false) : askE l s = 1 := by unfold askE; rw [h1]; rfl
theorem askE_seven {l : List Pr} {s : List Sp} (h1 : vP l = true) (h2 : s.all isS = false) : askE l s = 7 := by unfold askE; rw [h1, h2]; rfl
theorem take_step {s : List Sp} {k : Nat} {x : Sp} (hx : s[k]? = some x) (h : (s.take k).all isS = true) (h1 : isS x = true) : (s.take (k + 1)).all isS = true := by
  rw [List.take_add_one, hx, List.all_append, h]; simp [h1]
theorem all_no {s : List Sp} {k : Nat} {x : Sp} (hx : s[k]? = some x) (h1 : isS x = false) : s.all isS = false := by
  rw [List.all_eq_false]; exact ⟨x, List.mem_of_getElem? hx, by simp [h1]⟩
theorem vP_nil : vP [] = true := by decide
def thB (s : List Sp) : Bool := decide (s.length ≤ 40) && s.all isS
theorem any_nisS (s : List Sp) : (s.any fun x => !isS x) = !s.all isS := by induction s <;> simp_all
def szI (n : Int) : Int := max n (-n)
end Go.Proofs.YthklgkgincebhaaGreatDoor
