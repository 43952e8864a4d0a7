/- Lean: greatest common divisors and fractions in lowest terms, by the reference. -/
import Derived.Test.YtoelekhkgknneaaDoorProg
import Derived.Test.YtoelekhkgknneaaDoorKit
import Derived.BigQuiet
import Derived.Deep.QuietTactic
import Derived.IntWalk
namespace Go.Proofs.YtoelekhkgknneaaDoor
open Go.RowKit

/-- within what the loops bear -/
def Fits (n : Int) : Prop := -9000000000000000000 ≤ n ∧ n ≤ 9000000000000000000

theorem fits_wrap {n : Int} (h : Fits n) : IntKind.i64.wrap n = n := by
  obtain ⟨h1, h2⟩ := h
  exact IntWalk.i64_in _ (by omega)
theorem fits_abs {a : Int} : Fits a ↔ a.natAbs ≤ 9000000000000000000 := by unfold Fits; omega
theorem fits_mod {a b : Int} (h : Fits a) : Fits (a.tmod b) := by
  rw [fits_abs] at h ⊢
  rw [Int.natAbs_tmod]
  exact Nat.le_trans (Nat.mod_le _ _) h
theorem gcd_tmod_ (a b : Int) : Int.gcd b (a.tmod b) = Int.gcd a b := by
  show Nat.gcd b.natAbs (a.tmod b).natAbs = Nat.gcd a.natAbs b.natAbs
  rw [Int.natAbs_tmod, Nat.gcd_comm, ← Nat.gcd_rec, Nat.gcd_comm]
theorem natAbs_tmod_lt (a b : Int) (h : ¬ b = 0) : (a.tmod b).natAbs < b.natAbs := by
  rw [Int.natAbs_tmod]; exact Nat.mod_lt _ (by omega)
theorem gcd_zero_r (a : Int) : Int.gcd a 0 = a.natAbs := by show Nat.gcd _ _ = _; simp

theorem load_ratio {W : World} {b : Nat} {x y : Value} (h : Blk W b 93 #[x, y]) : (loadVar 93 ⟨b, 0, none⟩).run Tryd.prog W = .ok (.agg #[x, y]) W := by
  have c0 := h.cell 0
  have c1 := h.cell 1
  simp only [List.getElem?_toArray, List.getElem?_cons_zero, List.getElem?_cons_succ] at c0 c1
  go_simp

def gN (n d : Int) : Int := n / (Int.gcd n d : Int)
def gD (n d : Int) : Int := d / (Int.gcd n d : Int)
theorem gcd_pos_ {n d : Int} (h : 0 < d) : 0 < Int.gcd n d := Int.gcd_pos_of_ne_zero_right _ (by omega)
theorem tdiv_gcd_l (n d : Int) : n.tdiv (Int.gcd n d : Int) = gN n d := Int.tdiv_eq_ediv_of_dvd (Int.gcd_dvd_left _ _)
theorem tdiv_gcd_r (n d : Int) : d.tdiv (Int.gcd n d : Int) = gD n d := Int.tdiv_eq_ediv_of_dvd (Int.gcd_dvd_right _ _)
theorem fits_gN {n d : Int} (h : Fits n) : Fits (gN n d) := by
  rw [fits_abs] at h ⊢
  unfold gN
  rw [Int.natAbs_ediv_of_dvd (Int.gcd_dvd_left _ _)]
  exact Nat.le_trans (Nat.div_le_self _ _) h
theorem fits_gD {n d : Int} (h : Fits d) : Fits (gD n d) := by
  rw [fits_abs] at h ⊢
  unfold gD
  rw [Int.natAbs_ediv_of_dvd (Int.gcd_dvd_right _ _)]
  exact Nat.le_trans (Nat.div_le_self _ _) h

end Go.Proofs.YtoelekhkgknneaaDoor
