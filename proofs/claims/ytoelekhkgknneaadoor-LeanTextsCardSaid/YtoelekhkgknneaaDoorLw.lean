/- Lean: numbers of 128 bits. -/
import Derived.Test.YtoelekhkgknneaaDoorLn
import Derived.Test.YtoelekhkgknneaaDoorShelf
import Derived.Laws.Externs
import Derived.Lib.Hide
namespace Go.Proofs.YtoelekhkgknneaaDoor
open Go.RowKit

def Q64 : Nat := 18446744073709551616
def hi64 (v : Nat) : Nat := v / Q64
def lo64 (v : Nat) : Nat := v % Q64
theorem c_mul64 (x y : Nat) (hx : x < Q64) (hy : y < Q64) (w : World) :
    Calls Tryd.prog 159 #[.int .u64 x, .int .u64 y] w fun e w' => e = .returned (.tuple #[.int .u64 (hi64 (x * y) : Nat), .int .u64 (lo64 (x * y) : Nat)]) ∧ w = w' :=
  (Tryd.bits_Mul64 x y hx hy w).mono fun _ _ ⟨h1, h2⟩ => ⟨h1, h2.symm⟩
theorem wrap_u64 {n : Nat} (h : n < Q64) : IntKind.u64.wrap (n : Int) = n := by unfold Q64 at h; rw [IntKind.wrap_u64]; omega
theorem hi_lt {v : Nat} (h : v < Q64 * Q64) : hi64 v < Q64 := by unfold hi64; unfold Q64 at *; omega
theorem lo_lt (v : Nat) : lo64 v < Q64 := by unfold lo64; unfold Q64 at *; omega

theorem hl_eq (v : Nat) : v = hi64 v * Q64 + lo64 v := by unfold hi64 lo64; have := Nat.div_add_mod v Q64; rw [Nat.mul_comm] at this; exact this.symm
theorem hi_add (v u : Nat) : hi64 (v + u) = hi64 v + hi64 u + hi64 (lo64 v + lo64 u) := by
  unfold hi64 lo64 Q64; omega
theorem lo_add (v u : Nat) : lo64 (lo64 v + lo64 u) = lo64 (v + u) := by unfold lo64 Q64; omega

theorem wide_cases (v u : Nat) : (hi64 u < hi64 v ∧ u < v) ∨ (hi64 u = hi64 v ∧ lo64 u < lo64 v ∧ u < v) ∨ (hi64 u = hi64 v ∧ lo64 u = lo64 v ∧ ¬ u < v) ∨ (hi64 u = hi64 v ∧ lo64 v < lo64 u ∧ ¬ u < v) ∨ (hi64 v < hi64 u ∧ ¬ u < v) := by
  unfold hi64 lo64 Q64; omega

end Go.Proofs.YtoelekhkgknneaaDoor
