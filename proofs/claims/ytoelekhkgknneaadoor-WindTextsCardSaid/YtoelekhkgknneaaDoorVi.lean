/- Wind: Kept by the program. -/
import Derived.Test.YtoelekhkgknneaaDoorVh
set_option linter.unusedSimpArgs false
set_option linter.unusedVariables false
namespace Go.Proofs.YtoelekhkgknneaaDoor
open Go.RowKit

theorem ca_sorted {c : List Ca} (h : vCa c = true) : ∀ (b a : Nat), a < b → b < c.length → (caAt c a).t ≤ (caAt c b).f
  | 0, a, hab, _ => by omega
  | b + 1, a, hab, hb => by
    have h1 := okC_iff.1 ((vca h).2 (b + 1) hb)
    have h2 : (caAt c b).t ≤ (caAt c (b + 1)).f := by have := h1.2.2.2.2.2; simpa using this
    by_cases hab2 : a = b
    · subst hab2; exact h2
    · have h3 := ca_sorted h b a (by omega) (by omega)
      have h4 := okC_iff.1 ((vca h).2 b (by omega))
      omega
theorem idx_none {α : Type} {p : α → Bool} {l : List α} (h : ∀ x ∈ l, p x = false) : ∀ k, idxOf p l k = -1 := by
  induction l with
  | nil => intro k; rfl
  | cons x l ih =>
    intro k
    unfold idxOf
    rw [if_neg (by rw [h x (List.mem_cons_self ..)]; simp)]
    exact ih (fun y hy => h y (List.mem_cons_of_mem _ hy)) (k + 1)
theorem idx_at {α : Type} {p : α → Bool} : ∀ (l : List α) (i k : Nat) (x : α), l[i]? = some x → p x = true → (∀ (j : Nat) (y : α), j < i → l[j]? = some y → p y = false) → idxOf p l k = ((k + i : Nat) : Int)
  | [], i, k, x, hx, _, _ => by simp at hx
  | z :: l, 0, k, x, hx, hp, _ => by cases hx; unfold idxOf; rw [if_pos hp]; simp
  | z :: l, i + 1, k, x, hx, hp, h => by
    unfold idxOf
    rw [if_neg (by rw [h 0 z (by omega) rfl]; simp), idx_at l i (k + 1) x hx hp (fun j y hj hy => h (j + 1) y (by omega) hy)]
    congr 1; omega
def inC (t : Int) (x : Ca) : Bool := wn t x.f (x.t - 1)
theorem ix_some {c : List Ca} (h : vCa c = true) {t : Int} {x : Ca} (hc : ctO c t = some x) : idxOf (inC t) c 0 = (kF c t : Nat) ∧ c[kF c t]? = some x := by
  unfold ctO at hc
  split at hc
  · rename_i y hy
    split at hc
    · rename_i hf
      cases hc
      refine ⟨?_, hy⟩
      have := idx_at (p := inC t) c (kF c t) 0 x hy (wn_iff.2 ⟨hf, by have := kF_at hy; omega⟩) (fun j z hj hz => by
        have := kF_lt hj hz
        unfold inC
        cases hw : wn t z.f (z.t - 1) with
        | false => rfl
        | true => have := wn_iff.1 hw; omega)
      simpa using this
    · cases hc
  · cases hc
theorem ix_none {c : List Ca} (h : vCa c = true) {t : Int} (hc : ctO c t = none) : idxOf (inC t) c 0 = -1 := by
  refine idx_none (fun z hz => ?_) 0
  unfold inC
  cases hw : wn t z.f (z.t - 1) with
  | false => rfl
  | true =>
    exfalso
    obtain ⟨w1, w2⟩ := wn_iff.1 hw
    obtain ⟨i, hi⟩ := List.getElem?_of_mem hz
    have hil := (List.getElem?_eq_some_iff.1 hi).1
    have hk : kF c t ≤ i := by
      rcases Nat.lt_or_ge i (kF c t) with h1 | h1
      · have := kF_lt h1 hi; omega
      · exact h1
    obtain ⟨y, hy⟩ := get_lt (show kF c t < c.length by omega)
    unfold ctO at hc
    rw [hy] at hc
    have hkt := kF_at hy
    have hf : y.f ≤ t := by
      rcases Nat.eq_or_lt_of_le hk with e | h1
      · rw [e, hi] at hy; cases hy; exact w1
      · have := ca_sorted h i (kF c t) h1 hil
        rw [caAt_of hy, caAt_of hi] at this
        omega
    simp [hf] at hc
/-- whether a forecast has not kept a reading -/
def kpP (c : List Ca) (l : List Int) (t : Nat) : Bool := match ctO c (t : Int) with | some x => decide (l.getD t 0 ≠ -1) && !wn (l.getD t 0) x.lo x.hi | none => false
def kpE (c : List Ca) (l : List Int) : Int := if (vCa c && vGu l) = true then 0 else 1
def kpZ (c : List Ca) (l : List Int) : List Int := if kpE c l = 0 then fZ (kpP c l) l.length else []
end Go.Proofs.YtoelekhkgknneaaDoor
