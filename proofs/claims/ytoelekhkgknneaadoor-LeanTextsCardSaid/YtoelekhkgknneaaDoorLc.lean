/- Lean: valid lines, and by how much a point is off a line; by both. -/
import Derived.Test.YtoelekhkgknneaaDoorLb
namespace Go.Proofs.YtoelekhkgknneaaDoor
open Go.RowKit

theorem p_withinB (n lo hi : Int) (w : World) (k : Nat) {b : Bool} (h : wn n lo hi = b) : Calls Tryd.prog 109 #[.int .i64 n, .int .i64 lo, .int .i64 hi] (w.drewN k) fun e w' => e = .returned (.bool b) ∧ ∃ m, w' = w.drewN m :=
  (p_within n lo hi _).mono fun _ _ ⟨he, hw⟩ => ⟨by rw [he, h], k, hw.symm⟩
theorem g3_eq {a b d : Int} : (((Int.gcd (Int.gcd a b : Int) d : Nat) : Int) == 1) = decide (g3 a b d = 1) := by
  unfold g3; rw [Bool.eq_iff_iff]; simp; omega

def offV (a b d : Int) (p : Pt) : Int := p.x * d - a - b * p.h
structure OB (a b d : Int) (p : Pt) : Prop where
  m0 : -10000000000000000 ≤ p.x * d
  m1 : p.x * d ≤ 10000000000000000
  n0 : -200000000000000000 ≤ b * p.h
  n1 : b * p.h ≤ 200000000000000000
  o0 : -310000000000000000 ≤ offV a b d p
  o1 : offV a b d p ≤ 310000000000000000
theorem ob_of {a b d : Int} {p : Pt} (hl : LB a b d) (hp : SP p) : OB a b d p := by
  obtain ⟨a0, a1, b0, b1, d0, d1⟩ := hl
  obtain ⟨h0, h1, x0, x1⟩ := hp
  have m := mul_bd (a := p.x) (b := d) (A := 10000) (B := 1000000000000) (by omega) x1 (by omega) d1
  have n := mul_bd (a := b) (b := p.h) (A := 1000000000000) (B := 200000) (by omega) b1 (by omega) h1
  exact ⟨by omega, by omega, by omega, by omega, by unfold offV; omega, by unfold offV; omega⟩

set_option maxRecDepth 20000 in
theorem p_off (a b d : Int) (p : Pt) (w : World) (hl : LB a b d) (hp : SP p) :
    Calls Tryd.prog 138 #[lineV a b d, .agg #[.int .i64 p.h, .int .i64 p.x]] w fun e w' => e = .returned (.int .i64 (offV a b d p)) ∧ Below w.heap.size w w' := by
  obtain ⟨m0, m1, n0, n1, o0, o1⟩ := ob_of hl hp
  obtain ⟨a0, a1, b0, b1, d0, d1⟩ := hl
  unfold offV at *
  go_enter Tryd.func138, Tryd.ntmps138
  go_wp2
  go_ret
  exact ⟨rfl, below_tr (below_alloc _ _) (below_alloc _ _)⟩
def farV (a b d : Int) (p : Pt) : Int := (offV a b d p).natAbs
end Go.Proofs.YtoelekhkgknneaaDoor
