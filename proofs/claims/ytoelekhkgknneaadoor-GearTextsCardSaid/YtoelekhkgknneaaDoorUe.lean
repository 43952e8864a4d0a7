/- Texts, plain: what the reference's Number says of a text; Wind's words by it. -/
import Derived.Test.YtoelekhkgknneaaDoorTa
import Derived.Test.YtoelekhkgknneaaDoorUc
set_option linter.unusedSimpArgs false
set_option linter.unusedVariables false
namespace Go.Proofs.YtoelekhkgknneaaDoor
open Go.Lib

def bodyZ (s : List UInt8) : List UInt8 := if s.head? = some 45 then s.tail else s
def numV (s : List UInt8) : Int := if s.head? = some 45 then -(valD 0 s.tail : Nat) else (valD 0 s : Nat)
def numB (s : List UInt8) : Bool := decide (s ≠ []) && (decide (s.length ≤ 17) && ((bodyZ s).all digB && (decide (itoa (numV s) = s) && (decide (-1000000000000000 ≤ numV s) && decide (numV s ≤ 1000000000000000)))))
theorem itoa_head (m : Int) : ((itoa m).head? = some 45 ↔ m < 0) ∧ (m < 0 → (itoa m).tail = decDigits m.natAbs) ∧ (¬ m < 0 → itoa m = decDigits m.toNat) := by
  unfold itoa
  by_cases h : m < 0
  · rw [if_pos h]; exact ⟨by simp [h], fun _ => rfl, fun h' => absurd h h'⟩
  · rw [if_neg h]
    refine ⟨⟨fun e => ?_, fun e => absurd e h⟩, fun e => absurd e h, fun _ => rfl⟩
    obtain ⟨c, r, hcr⟩ := List.exists_cons_of_ne_nil (decD_ne m.toNat)
    have hc := decD_dig m.toNat c (by rw [hcr]; exact List.mem_cons_self ..)
    rw [hcr] at e
    injection e with e
    subst e; exact absurd hc (by decide)
theorem numV_itoa (m : Int) : numV (itoa m) = m ∧ (bodyZ (itoa m)).all digB = true := by
  obtain ⟨h1, h2, h3⟩ := itoa_head m
  unfold numV bodyZ
  by_cases h : m < 0
  · rw [if_pos (h1.2 h), if_pos (h1.2 h), h2 h, valD_dec]
    exact ⟨by omega, List.all_eq_true.2 (decD_dig _)⟩
  · rw [if_neg (fun e => h (h1.1 e)), if_neg (fun e => h (h1.1 e)), h3 h, valD_dec]
    exact ⟨by omega, List.all_eq_true.2 (decD_dig _)⟩
theorem decD_le {u k : Nat} (h : u < 10 ^ (k + 1)) : (decDigits u).length ≤ k + 1 := by
  induction k generalizing u with
  | zero => rw [dec_one (by simpa using h)]; simp
  | succ k ih =>
    by_cases hu : u < 10
    · rw [dec_one hu]; simp
    · rw [dec_more hu]
      have := ih (u := u / 10) (by rw [Nat.pow_succ] at h; omega)
      simp; omega
theorem num_iff (s : List UInt8) : numB s = true ↔ itoa (numV s) = s ∧ -1000000000000000 ≤ numV s ∧ numV s ≤ 1000000000000000 := by
  unfold numB
  simp only [Bool.and_eq_true, decide_eq_true_eq]
  constructor
  · rintro ⟨_, _, _, h1, h2, h3⟩; exact ⟨h1, h2, h3⟩
  · rintro ⟨h1, h2, h3⟩
    have h4 := (numV_itoa (numV s)).2
    rw [h1] at h4
    have h5 := itoa_ne (numV s)
    rw [h1] at h5
    refine ⟨h5, ?_, h4, h1, h2, h3⟩
    have h6 : (itoa (numV s)).length ≤ 17 := by
      obtain ⟨_, a, b⟩ := itoa_head (numV s)
      by_cases hn : numV s < 0
      · have e : itoa (numV s) = 45 :: decDigits (numV s).natAbs := by unfold itoa; rw [if_pos hn]
        rw [e]
        have := decD_le (u := (numV s).natAbs) (k := 15) (by omega)
        simp; omega
      · rw [b hn]
        have := decD_le (u := (numV s).toNat) (k := 15) (by omega)
        omega
    rwa [h1] at h6
theorem num_of {m : Int} (h0 : -1000000000000000 ≤ m) (h1 : m ≤ 1000000000000000) : numB (itoa m) = true ∧ numV (itoa m) = m := by
  have := (numV_itoa m).1
  exact ⟨(num_iff _).2 (by rw [this]; exact ⟨rfl, h0, h1⟩), this⟩
theorem valD_lt : ∀ (l : List UInt8) (a : Nat), (∀ c ∈ l, digB c = true) → valD a l < (a + 1) * 10 ^ l.length
  | [], a, _ => by simp [valD]
  | c :: r, a, h => by
    have hc := h c (List.mem_cons_self ..)
    unfold digB at hc
    have hc' := of_decide_eq_true hc
    have ih := valD_lt r (a * 10 + (c.toNat - 48)) fun x hx => h x (List.mem_cons_of_mem _ hx)
    have e : valD a (c :: r) = valD (a * 10 + (c.toNat - 48)) r := rfl
    rw [e, List.length_cons, Nat.pow_succ]
    refine Nat.lt_of_lt_of_le ih ?_
    rw [show (a + 1) * (10 ^ r.length * 10) = ((a + 1) * 10) * 10 ^ r.length by rw [Nat.mul_comm (10 ^ r.length) 10, Nat.mul_assoc]]
    exact Nat.mul_le_mul_right _ (by omega)
end Go.Proofs.YtoelekhkgknneaaDoor
