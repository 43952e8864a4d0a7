/- Stack: the parts of a stack, the plain law; and the contracts of what StackParts asks, in letters. -/
import Derived.Test.YthoemokkfijfeaaSl
import Derived.Test.YthoemokkfijfeaaMe
namespace Go.Proofs.Ythoemokkfijfeaa
open Go.RowKit

theorem gN_mul (n d : Int) : gN n d * (Int.gcd n d : Int) = n := Int.ediv_mul_cancel (Int.gcd_dvd_left _ _)
theorem gD_mul (n d : Int) : gD n d * (Int.gcd n d : Int) = d := Int.ediv_mul_cancel (Int.gcd_dvd_right _ _)
theorem gN_scale {k n d : Int} (hk : 0 < k) : gN (k * n) (k * d) = gN n d := by
  unfold gN
  rw [Int.gcd_mul_left, show ((k.natAbs * Int.gcd n d : Nat) : Int) = k * (Int.gcd n d : Int) by rw [Int.natCast_mul]; congr 1; omega, Int.mul_ediv_mul_of_pos _ _ hk]
theorem gD_scale {k n d : Int} (hk : 0 < k) : gD (k * n) (k * d) = gD n d := by
  unfold gD
  rw [Int.gcd_mul_left, show ((k.natAbs * Int.gcd n d : Nat) : Int) = k * (Int.gcd n d : Int) by rw [Int.natCast_mul]; congr 1; omega, Int.mul_ediv_mul_of_pos _ _ hk]
theorem gD_pos {n d : Int} (h : 0 < d) : 0 < gD n d := Int.ediv_pos_of_pos_of_dvd h (by omega) (Int.gcd_dvd_right _ _)
theorem gD_le {n d : Int} (h : 0 < d) : gD n d ≤ d := Int.ediv_le_self _ (by omega)
theorem gD_quot {n d : Int} (h : 0 < d) : d / gD n d = (Int.gcd n d : Int) := by
  have h1 := gD_mul n d
  have h2 := gD_pos (n := n) h
  rw [show d / gD n d = (gD n d * (Int.gcd n d : Int)) / gD n d by rw [h1]]
  exact Int.mul_ediv_cancel_left _ (by omega)
theorem gN_bd {n d B : Int} (h : 0 < d) (h1 : -B ≤ n) (h2 : n ≤ B) : -B ≤ gN n d ∧ gN n d ≤ B := by
  have h3 := gN_mul n d
  have h4 : (0 : Int) < (Int.gcd n d : Int) := by have := gcd_pos_ (n := n) h; omega
  generalize (Int.gcd n d : Int) = g at h3 h4
  generalize gN n d = m at h3
  have hn : n.natAbs = m.natAbs * g.natAbs := by rw [← h3, Int.natAbs_mul]
  have : m.natAbs ≤ m.natAbs * g.natAbs := Nat.le_mul_of_pos_right _ (by omega)
  omega
/-- A fraction in lowest terms, in letters. -/
theorem cen (E W B : Int) (hW : 0 < W) (h1 : -B ≤ E) (h2 : E ≤ B) :
    ∃ N D g : Int, gN E W = N ∧ gD E W = D ∧ 1 ≤ D ∧ D ≤ W ∧ W % D = 0 ∧ W / D = g ∧ N * g = E ∧ 0 ≤ g ∧ g ≤ W ∧ -B ≤ N ∧ N ≤ B := by
  have hp := gD_pos (n := E) hW
  have hg : (0 : Int) < (Int.gcd E W : Int) := by have := gcd_pos_ (n := E) hW; omega
  refine ⟨_, _, _, rfl, rfl, hp, gD_le hW, Int.emod_eq_zero_of_dvd ⟨_, (gD_mul E W).symm⟩, rfl, ?_, ?_, ?_, (gN_bd hW h1 h2).1, (gN_bd hW h1 h2).2⟩
  · rw [gD_quot hW, gN_mul]
  · rw [gD_quot hW]; omega
  · rw [gD_quot hW]; exact Int.le_of_dvd hW (Int.gcd_dvd_right _ _)
/-- moments grow with the pressure -/
theorem mom_grow {p P M : Int} (hM : 0 < M) : gN (gN P M * p) (gD P M) = gN (p * P) M ∧ gD (gN P M * p) (gD P M) = gD (p * P) M := by
  have hg : (0 : Int) < (Int.gcd P M : Int) := by have := gcd_pos_ (n := P) hM; omega
  have h1 : (Int.gcd P M : Int) * (gN P M * p) = p * P := by
    have := gN_mul P M
    rw [← Int.mul_assoc, Int.mul_comm (Int.gcd P M : Int), this, Int.mul_comm]
  have h2 : (Int.gcd P M : Int) * gD P M = M := by rw [Int.mul_comm]; exact gD_mul P M
  constructor
  · rw [← gN_scale hg, h1, h2]
  · rw [← gD_scale hg, h1, h2]

theorem weightR_ok {l : List Course} {n : Nat} (h : askedE l n = 0) : weightR l n = (wts (l.drop n), 0) := by simp [weightR, h]
theorem centreR_ok {l : List Course} {n : Nat} (h : askedE l n = 0) : centreR l n = ((gN (es (l.drop n)) (wts (l.drop n)), gD (es (l.drop n)) (wts (l.drop n))), (gN (ns (l.drop n)) (wts (l.drop n)), gD (ns (l.drop n)) (wts (l.drop n))), 0) := by simp [centreR, h]
theorem momentR_ok {l : List Course} {n : Nat} {p : Int} (h : windyE l n p 0 = 0) : momentR l n p = ((gN (p * push (l.drop n)) 1000000, gD (p * push (l.drop n)) 1000000), 0) := by simp [momentR, h]
theorem momentR_no {l : List Course} {n : Nat} {p : Int} (h : ¬ windyE l n p 0 = 0) : momentR l n p = ((0, 0), windyE l n p 0) := by simp [momentR, h]
theorem asked_ok {l : List Course} {n : Nat} (hv : validC l = true) (hn : n < l.length) : askedE l n = 0 := by
  unfold askedE wn; rw [if_pos hv, if_pos]; simp; omega
theorem windy_ok {l : List Course} {n : Nat} {p : Int} (hv : validC l = true) (hn : n < l.length) (h0 : 0 ≤ p) (h1 : p ≤ 10000) : windyE l n p 0 = 0 := by
  unfold windyE wn; rw [if_pos hv, if_pos]; simp; omega
theorem windy_no {l : List Course} {n : Nat} {p : Int} (hv : validC l = true) (hp : ¬ (0 ≤ p ∧ p ≤ 10000)) : windyE l n p 0 = 7 := by
  unfold windyE wn; rw [if_pos hv, if_neg]; simp; omega

abbrev rt (a b : Int) : Value := .agg #[.int .i64 a, .int .i64 b]
/-- What stands over a bed, in letters: the course x and the rest. -/
theorem over_letters {l : List Course} {n : Nat} {x : Course} (hall : l.all soundB = true) (hl : l.length ≤ 60) (hx : l[n]? = some x) :
    ∃ S : List Course, l.drop n = x :: S ∧ l.drop (n + 1) = S ∧ (l.length = n + 1 → S = []) ∧ S.all soundB = true ∧ S.length ≤ 59 ∧ (n + 1 < l.length → 0 < S.length) := by
  have hn : n < l.length := (List.getElem?_eq_some_iff.1 hx).1
  refine ⟨l.drop (n + 1), hs_drop hx, rfl, fun h => List.drop_of_length_le (by omega), all_drop hall _, by simp; omega, fun h => by simp; omega⟩
end Go.Proofs.Ythoemokkfijfeaa
