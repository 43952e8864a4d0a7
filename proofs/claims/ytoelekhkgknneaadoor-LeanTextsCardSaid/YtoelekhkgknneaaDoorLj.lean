/- Lean: fractions compared, by the reference. -/
import Derived.Test.YtoelekhkgknneaaDoorLf
namespace Go.Proofs.YtoelekhkgknneaaDoor
open Go.RowKit

/-- a product's sign -/
def sgI (a b : Int) : Int := if a = 0 ∨ b = 0 then 0 else if (a < 0 ↔ b < 0) then 1 else -1
theorem sg3 (a b : Int) : (sgI a b = -1 ∧ a * b < 0 ∧ ((a.natAbs * b.natAbs : Nat) : Int) = -(a * b)) ∨ (sgI a b = 0 ∧ a * b = 0 ∧ ((a.natAbs * b.natAbs : Nat) : Int) = 0) ∨ (sgI a b = 1 ∧ 0 < a * b ∧ ((a.natAbs * b.natAbs : Nat) : Int) = a * b) := by
  have hm : ((a.natAbs * b.natAbs : Nat) : Int) = ((a * b).natAbs : Nat) := by rw [Int.natAbs_mul]
  unfold sgI
  by_cases h0 : a = 0 ∨ b = 0
  · rw [if_pos h0]
    have h1 : a * b = 0 := Int.mul_eq_zero.2 h0
    refine Or.inr (Or.inl ⟨rfl, h1, by omega⟩)
  · rw [if_neg h0]
    by_cases sa : a < 0
    · by_cases sb : b < 0
      · rw [if_pos (by omega)]
        have h1 : 0 < a * b := Int.mul_pos_of_neg_of_neg sa sb
        exact Or.inr (Or.inr ⟨rfl, h1, by omega⟩)
      · rw [if_neg (by omega)]
        have h1 : a * b < 0 := Int.mul_neg_of_neg_of_pos sa (by omega)
        exact Or.inl ⟨rfl, h1, by omega⟩
    · by_cases sb : b < 0
      · rw [if_neg (by omega)]
        have h1 : a * b < 0 := Int.mul_neg_of_pos_of_neg (by omega) sb
        exact Or.inl ⟨rfl, h1, by omega⟩
      · rw [if_pos (by omega)]
        have h1 : 0 < a * b := Int.mul_pos (by omega) (by omega)
        exact Or.inr (Or.inr ⟨rfl, h1, by omega⟩)
theorem cmp_lt {x y : Int} (h : x < y) : cmpI x y = -1 := by unfold cmpI; rw [if_pos h]
theorem cmp_eq {x y : Int} (h : x = y) : cmpI x y = 0 := by unfold cmpI; rw [if_neg (by omega), if_pos h]
theorem cmp_gt {x y : Int} (h : y < x) : cmpI x y = 1 := by unfold cmpI; rw [if_neg (by omega), if_neg (by omega)]
/-- the ways that two products compare -/
theorem prod_ways (a b c d : Int) : ∃ s t r : Int, sgI a b = s ∧ sgI c d = t ∧ cmpI (a * b) (c * d) = r ∧
    ((s = -1 ∧ t = 0 ∧ r = -1) ∨ (s = -1 ∧ t = 1 ∧ r = -1) ∨ (s = 0 ∧ t = 1 ∧ r = -1) ∨ (s = 0 ∧ t = -1 ∧ r = 1) ∨ (s = 1 ∧ t = -1 ∧ r = 1) ∨ (s = 1 ∧ t = 0 ∧ r = 1) ∨
    ((s = 0 ∧ t = 0 ∧ r = 0 ∨ s = 1 ∧ t = 1 ∧ r = 0 ∨ s = -1 ∧ t = -1 ∧ r = 0) ∧ hi64 (a.natAbs * b.natAbs) = hi64 (c.natAbs * d.natAbs) ∧ lo64 (a.natAbs * b.natAbs) = lo64 (c.natAbs * d.natAbs)) ∨
    ((s = 1 ∧ t = 1 ∧ r = -1 ∨ s = -1 ∧ t = -1 ∧ r = 1) ∧ hi64 (a.natAbs * b.natAbs) < hi64 (c.natAbs * d.natAbs)) ∨
    ((s = 1 ∧ t = 1 ∧ r = -1 ∨ s = -1 ∧ t = -1 ∧ r = 1) ∧ hi64 (a.natAbs * b.natAbs) = hi64 (c.natAbs * d.natAbs) ∧ lo64 (a.natAbs * b.natAbs) < lo64 (c.natAbs * d.natAbs)) ∨
    ((s = 1 ∧ t = 1 ∧ r = 1 ∨ s = -1 ∧ t = -1 ∧ r = -1) ∧ hi64 (a.natAbs * b.natAbs) = hi64 (c.natAbs * d.natAbs) ∧ lo64 (c.natAbs * d.natAbs) < lo64 (a.natAbs * b.natAbs)) ∨
    ((s = 1 ∧ t = 1 ∧ r = 1 ∨ s = -1 ∧ t = -1 ∧ r = -1) ∧ hi64 (c.natAbs * d.natAbs) < hi64 (a.natAbs * b.natAbs))) := by
  have W := wide_five (a.natAbs * b.natAbs) (c.natAbs * d.natAbs)
  have X := sg3 a b
  have Y := sg3 c d
  generalize a * b = x at X ⊢
  generalize c * d = y at Y ⊢
  generalize sgI a b = s at X ⊢
  generalize sgI c d = t at Y ⊢
  generalize a.natAbs * b.natAbs = u at X W ⊢
  generalize c.natAbs * d.natAbs = v at Y W ⊢
  refine ⟨s, t, cmpI x y, rfl, rfl, rfl, ?_⟩
  have C : (x < y ∧ cmpI x y = -1) ∨ (x = y ∧ cmpI x y = 0) ∨ (y < x ∧ cmpI x y = 1) := by
    rcases Int.lt_trichotomy x y with h | h | h
    · exact Or.inl ⟨h, cmp_lt h⟩
    · exact Or.inr (Or.inl ⟨h, cmp_eq h⟩)
    · exact Or.inr (Or.inr ⟨h, cmp_gt h⟩)
  generalize cmpI x y = r at C ⊢
  generalize hi64 u = hu at W ⊢
  generalize hi64 v = hv at W ⊢
  generalize lo64 u = lu at W ⊢
  generalize lo64 v = lv at W ⊢
  have Z : (u : Int) = 0 ↔ u = 0 := by omega
  rcases X with ⟨rfl, X1, X2⟩ | ⟨rfl, X1, X2⟩ | ⟨rfl, X1, X2⟩ <;> rcases Y with ⟨rfl, Y1, Y2⟩ | ⟨rfl, Y1, Y2⟩ | ⟨rfl, Y1, Y2⟩ <;> rcases C with ⟨C1, rfl⟩ | ⟨C1, rfl⟩ | ⟨C1, rfl⟩ <;> first | (exfalso; omega) | (simp; done) | (rcases W with ⟨h1, h2⟩ | ⟨h1, h2, h3⟩ | ⟨h1, h2, h3⟩ | ⟨h1, h2, h3⟩ | ⟨h1, h2⟩ <;> first | (exfalso; omega) | (simp [h1]; done) | (simp [h1, h2]; done) | (simp; omega))

end Go.Proofs.YtoelekhkgknneaaDoor
