/- Wind: the first window, by the program. -/
import Derived.Test.YtoelekhkgknneaaDoorVf
set_option linter.unusedSimpArgs false
set_option linter.unusedVariables false
namespace Go.Proofs.YtoelekhkgknneaaDoor
open Go.RowKit

/-- the first cast that does not end by a minute -/
def kF : List Ca → Int → Nat
  | [], _ => 0
  | x :: c, t => if x.t ≤ t then kF c t + 1 else 0
theorem kF_le (c : List Ca) (t : Int) : kF c t ≤ c.length := by
  induction c with
  | nil => exact Nat.le_refl _
  | cons x c ih => unfold kF; split <;> simp <;> omega
theorem kF_lt {c : List Ca} {t : Int} : ∀ {k : Nat} {x : Ca}, k < kF c t → c[k]? = some x → x.t ≤ t := by
  induction c with
  | nil => intro k x hk _; simp [kF] at hk
  | cons y c ih =>
    intro k x hk hx
    unfold kF at hk
    split at hk
    · cases k with
      | zero => cases hx; assumption
      | succ k => exact ih (by omega) hx
    · omega
theorem kF_at {c : List Ca} {t : Int} {x : Ca} (hx : c[kF c t]? = some x) : t < x.t := by
  induction c with
  | nil => simp at hx
  | cons y c ih =>
    unfold kF at hx
    split at hx
    · exact ih hx
    · cases hx; omega
theorem kF_mono (c : List Ca) {t u : Int} (h : t ≤ u) : kF c t ≤ kF c u := by
  induction c with
  | nil => exact Nat.le_refl _
  | cons y c ih =>
    unfold kF
    split
    · rw [if_pos (by omega)]; omega
    · omega
theorem kF_step {c : List Ca} {t : Int} {k : Nat} {x : Ca} (hk : k ≤ kF c t) (hx : c[k]? = some x) (h : x.t ≤ t) : k + 1 ≤ kF c t := by
  rcases Nat.eq_or_lt_of_le hk with e | h2
  · subst e; have := kF_at hx; omega
  · omega
theorem kF_stop {c : List Ca} {t : Int} {k : Nat} (hk : k ≤ kF c t) (h : ∀ x, c[k]? = some x → t < x.t) (hl : k ≤ c.length) : kF c t = k := by
  rcases Nat.eq_or_lt_of_le hk with e | h2
  · exact e.symm
  · have hlt : k < c.length := by have := kF_le c t; omega
    obtain ⟨x, hx⟩ := get_lt hlt
    have := kF_lt h2 hx
    have := h x hx
    omega
/-- the cast of a minute -/
def ctO (c : List Ca) (t : Int) : Option Ca := match c[kF c t]? with
  | some x => if x.f ≤ t then some x else none
  | none => none
/-- where the row of fine minutes that reaches minute from + k begins -/
def bgS (fine : Int → Bool) (fr : Int) : Nat → Int
  | 0 => fr
  | k + 1 => if fine (fr + k) = true then bgS fine fr k else fr + k + 1
def hitB (fine : Int → Bool) (n fr : Int) (k : Nat) : Bool := fine (fr + k) && decide (fr + k + 1 - bgS fine fr k = n)
def winO (fine : Int → Bool) (n fr to : Int) : Option Nat := (List.range (to - fr).toNat).find? (hitB fine n fr)
def winE (fine : Int → Bool) (n fr to : Int) : Int := match winO fine n fr to with | some _ => 0 | none => 8
def winI (fine : Int → Bool) (n fr to : Int) : Int := match winO fine n fr to with | some k => bgS fine fr k | none => 0
theorem bgS_bd (fine : Int → Bool) (fr : Int) : ∀ k : Nat, fr ≤ bgS fine fr k ∧ bgS fine fr k ≤ fr + k ∧ ∀ i : Int, bgS fine fr k ≤ i → i < fr + k → fine i = true
  | 0 => ⟨Int.le_refl _, by simp [bgS], fun i h1 h2 => by simp [bgS] at h1 h2; omega⟩
  | k + 1 => by
    obtain ⟨h1, h2, h3⟩ := bgS_bd fine fr k
    unfold bgS
    split
    · rename_i hf
      refine ⟨h1, by omega, fun i h4 h5 => ?_⟩
      by_cases hi : i = fr + k
      · subst hi; exact hf
      · exact h3 i h4 (by omega)
    · exact ⟨by omega, by omega, fun i h4 h5 => by omega⟩
theorem find_range_none {p : Nat → Bool} {n : Nat} (h : ∀ k, k < n → p k = false) : (List.range n).find? p = none := by
  rw [List.find?_eq_none]
  intro k hk
  rw [h k (by simpa using hk)]; simp
theorem find_range_some {p : Nat → Bool} {n k : Nat} (hk : k < n) (hp : p k = true) (h : ∀ j, j < k → p j = false) : (List.range n).find? p = some k := by
  rw [List.find?_range_eq_some]
  exact ⟨hp, by simpa using hk, fun j hj => by rw [h j hj]; rfl⟩
abbrev caZ0 : Ca := ⟨0, 0, 0, 0⟩
theorem ctO_some {c : List Ca} {t : Int} {x : Ca} (hx : c[kF c t]? = some x) (h : x.f ≤ t) : ctO c t = some x := by unfold ctO; rw [hx]; simp [h]
theorem ctO_late {c : List Ca} {t : Int} {x : Ca} (hx : c[kF c t]? = some x) (h : ¬ x.f ≤ t) : ctO c t = none := by unfold ctO; rw [hx]; simp [h]
theorem ctO_none {c : List Ca} {t : Int} (hx : c[kF c t]? = none) : ctO c t = none := by unfold ctO; rw [hx]
end Go.Proofs.YtoelekhkgknneaaDoor
