/- Fell: what is held, by the reference. -/
import Derived.Test.YthklgkgincebhaaGreatDoorFkq
import Derived.Outline
set_option linter.unusedSimpArgs false
set_option linter.unusedVariables false
namespace Go.Proofs.YthklgkgincebhaaGreatDoor
open Go.RowKit

theorem vcr_crR (a b x : Sp) : vcr (vec b a) (vec x a) = cr a b x := by unfold vcr vec cr; rfl
theorem vdot_dqR (a b x : Sp) : vdot (vec x a) (vec x b) = dq x a b := by unfold vdot vec dq; rfl
def btwB (a b w : Sp) : Bool := decide (cr a b w = 0) && decide (dq w a b ≤ 0)
def insB (a b c w : Sp) : Bool := (decide (0 < cr a b c) && (decide (0 ≤ cr a b w) && (decide (0 ≤ cr b c w) && decide (0 ≤ cr c a w)))) || (decide (cr a b c < 0) && (decide (cr a b w ≤ 0) && (decide (cr b c w ≤ 0) && decide (cr c a w ≤ 0))))
theorem btwB_iff {a b w : Sp} : btwB a b w = true ↔ Btw a b w := by unfold btwB Btw; simp
theorem insB_iff {a b c w : Sp} : insB a b c w = true ↔ Ins a b c w := by unfold insB Ins; simp
def pJ (l : List Sp) (w : Sp) (i k j : Nat) : Bool := insB (gl l i) (gl l k) (gl l j) w
def pK (l : List Sp) (w : Sp) (i k : Nat) : Bool := btwB (gl l i) (gl l k) w || (List.range k).any (pJ l w i k)
def pI (l : List Sp) (w : Sp) (i : Nat) : Bool := (List.range (i + 1)).any (pK l w i)
def heldB (l : List Sp) (w : Sp) : Bool := (List.range l.length).any (pI l w)
theorem dq_sym (w a b : Sp) : dq w b a = dq w a b := by unfold dq; grind
theorem Btw.symm {a b w : Sp} (h : Btw a b w) : Btw b a w := ⟨by rw [cr_flip, h.1]; rfl, by rw [dq_sym]; exact h.2⟩
theorem Ins.rot {a b c w : Sp} (h : Ins a b c w) : Ins b c a w := by
  have e : cr b c a = cr a b c := cr_rot a b c
  unfold Ins at h ⊢; rw [e]; omega
theorem Ins.flip {a b c w : Sp} (h : Ins a b c w) : Ins b a c w := by
  have e := cr_flip a b c
  have e1 := cr_flip a b w
  have e2 := cr_flip b c w
  have e3 := cr_flip c a w
  unfold Ins at h ⊢; rw [e, e1, e3, e2]; omega
theorem Ins.ne {a b c w : Sp} (h : Ins a b c w) : a ≠ b ∧ b ≠ c ∧ a ≠ c := by
  have key : ∀ x y : Sp, cr x x y = 0 ∧ cr x y y = 0 ∧ cr x y x = 0 := fun x y => ⟨(cr_self x y).2.2, (cr_self x y).2.1, (cr_self x y).1⟩
  unfold Ins at h
  refine ⟨?_, ?_, ?_⟩
  · rintro rfl; have := (key a c).1; omega
  · rintro rfl; have := (key a b).2.1; omega
  · rintro rfl; have := (key a b).2.2; omega
theorem gl_mem {l : List Sp} {i : Nat} (h : i < l.length) : gl l i ∈ l := List.mem_of_getElem? (gl_at h)
theorem mem_gl {l : List Sp} {a : Sp} (h : a ∈ l) : ∃ i, i < l.length ∧ gl l i = a := by
  obtain ⟨i, hi, e⟩ := List.getElem_of_mem h
  exact ⟨i, hi, gl_of (by rw [List.getElem?_eq_getElem hi, e])⟩
theorem heldB_iff {l : List Sp} {w : Sp} : heldB l w = true ↔ Held l w := by
  unfold heldB pI pK pJ
  simp only [List.any_eq_true, List.mem_range, Bool.or_eq_true, btwB_iff, insB_iff]
  constructor
  · rintro ⟨i, hi, k, hk, h | ⟨j, hj, h⟩⟩
    · exact ⟨_, gl_mem hi, _, gl_mem (show k < l.length by omega), .inl h⟩
    · exact ⟨_, gl_mem hi, _, gl_mem (show k < l.length by omega), .inr ⟨_, gl_mem (show j < l.length by omega), h⟩⟩
  · rintro ⟨a, ha, b, hb, h | ⟨c, hc, h⟩⟩
    · obtain ⟨i, hi, rfl⟩ := mem_gl ha
      obtain ⟨k, hk, rfl⟩ := mem_gl hb
      rcases Nat.le_total k i with q | q
      · exact ⟨i, hi, k, by omega, .inl h⟩
      · exact ⟨k, hk, i, by omega, .inl h.symm⟩
    · obtain ⟨i, hi, rfl⟩ := mem_gl ha
      obtain ⟨k, hk, rfl⟩ := mem_gl hb
      obtain ⟨j, hj, rfl⟩ := mem_gl hc
      obtain ⟨n1, n2, n3⟩ := h.ne
      have m1 : i ≠ k := fun e => n1 (by rw [e])
      have m2 : k ≠ j := fun e => n2 (by rw [e])
      have m3 : i ≠ j := fun e => n3 (by rw [e])
      rcases (by omega : (j < k ∧ k < i) ∨ (k < j ∧ j < i) ∨ (i < k ∧ k < j) ∨ (k < i ∧ i < j) ∨ (i < j ∧ j < k) ∨ (j < i ∧ i < k)) with q | q | q | q | q | q
      · exact ⟨i, hi, k, by omega, .inr ⟨j, q.1, h⟩⟩
      · exact ⟨i, hi, j, by omega, .inr ⟨k, q.1, h.flip.rot⟩⟩
      · exact ⟨j, hj, k, by omega, .inr ⟨i, q.1, h.rot.flip⟩⟩
      · exact ⟨j, hj, i, by omega, .inr ⟨k, q.1, h.rot.rot⟩⟩
      · exact ⟨k, hk, j, by omega, .inr ⟨i, q.1, h.rot⟩⟩
      · exact ⟨k, hk, i, by omega, .inr ⟨j, q.1, h.flip⟩⟩
theorem held_dec {l : List Sp} {w : Sp} {b : Bool} (h : b = true ↔ Held l w) : b = heldB l w := by rw [Bool.eq_iff_iff, h, heldB_iff]
end Go.Proofs.YthklgkgincebhaaGreatDoor
