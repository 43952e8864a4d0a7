/- Lean: valid lines, and by how much a point is off a line; by both. -/
import Derived.Test.YtohbejdfaecghaaLb
namespace Go.Proofs.Ytohbejdfaecghaa
open Go.RowKit

theorem p_withinB (n lo hi : Int) (w : World) (k : Nat) {b : Bool} (h : wn n lo hi = b) : Calls Try.prog 65 #[.int .i64 n, .int .i64 lo, .int .i64 hi] (w.drewN k) fun e w' => e = .returned (.bool b) ∧ ∃ m, w' = w.drewN m :=
  (p_within n lo hi _).mono fun _ _ ⟨he, hw⟩ => ⟨by rw [he, h], k, hw.symm⟩
theorem r_inBoundsB (n lo hi : Int) (w : World) (k : Nat) {b : Bool} (h : inB n lo hi = b) : Calls Try.prog 67 #[.int .i64 n, .int .i64 lo, .int .i64 hi] (w.drewN k) fun e w' => e = .returned (.bool b) ∧ ∃ m, w' = w.drewN m :=
  (r_inBounds n lo hi _).mono fun _ _ ⟨he, hw⟩ => ⟨by rw [he, h], k, hw.symm⟩
theorem g3_eq {a b d : Int} : (((Int.gcd (Int.gcd a b : Int) d : Nat) : Int) == 1) = decide (g3 a b d = 1) := by
  unfold g3; rw [Bool.eq_iff_iff]; simp; omega

set_option maxHeartbeats 1000000 in
set_option maxRecDepth 20000 in
theorem p_validLine (a b d : Int) (w : World) :
    Calls Try.prog 23 #[lineV a b d] w fun e w' => e = .returned (.bool (vldL a b d)) ∧ Below w.heap.size w w' := by
  unfold vldL inB
  cases h1 : wn d 1 1000000000000
  · go_enter Try.func23, Try.ntmps23
    go_wp2_with (fail)
    go_quiet ((go_at_call 65; exact p_withinB _ _ _ _ _ (by assumption)))
    go_wp2
    go_ret
    exact ⟨ret_bool (by simp), below_drewN (below_alloc _ _) _⟩
  · cases h2 : wn a (-100000000000000000) 100000000000000000
    · go_enter Try.func23, Try.ntmps23
      go_wp2_with (fail)
      go_quiet ((go_at_call 65; exact p_withinB _ _ _ _ _ (by assumption)))
      go_wp2
      go_ret
      exact ⟨ret_bool (by simp), below_drewN (below_alloc _ _) _⟩
    · cases h3 : wn b (-1000000000000) 1000000000000
      · go_enter Try.func23, Try.ntmps23
        go_wp2_with (fail)
        go_quiet ((go_at_call 65; exact p_withinB _ _ _ _ _ (by assumption)))
        go_wp2
        go_ret
        exact ⟨ret_bool (by simp), below_drewN (below_alloc _ _) _⟩
      · obtain ⟨a0, a1, b0, b1, d0, d1⟩ := lb_of (a := a) (b := b) (d := d) (by unfold inB; rw [h1, h2, h3]; rfl)
        have fa : Fits a := ⟨by omega, by omega⟩
        have fb : Fits b := ⟨by omega, by omega⟩
        have fd : Fits d := ⟨by omega, by omega⟩
        have fg := fits_gcd fa fb
        clear a0 a1 b0 b1 d0 d1
        go_enter Try.func23, Try.ntmps23
        go_wp2_with (fail)
        go_quiet ((first
          | (go_at_call 65; exact p_withinB _ _ _ _ _ (by assumption))
          | (go_at_call 69; exact Calls.quiet_of (p_divisorQ _ _ _ (by assumption) (by assumption)))))
        go_wp2
        go_ret
        exact ⟨ret_bool (by rw [g3_eq]; simp), below_drewN (below_alloc _ _) _⟩

set_option maxHeartbeats 1000000 in
set_option maxRecDepth 20000 in
theorem r_validLine (a b d : Int) (w : World) :
    Calls Try.prog 24 #[lineV a b d] w fun e w' => e = .returned (.bool (vldL a b d)) ∧ Below w.heap.size w w' := by
  unfold vldL
  cases h1 : inB a b d
  · go_enter Try.func24, Try.ntmps24
    go_wp2_with (fail)
    go_quiet ((go_at_call 67; exact r_inBoundsB _ _ _ _ _ (by assumption)))
    go_wp2
    go_ret
    exact ⟨ret_bool (by simp), below_drewN (below_alloc _ _) _⟩
  · obtain ⟨a0, a1, b0, b1, d0, d1⟩ := lb_of h1
    have fa : Fits a := ⟨by omega, by omega⟩
    have fb : Fits b := ⟨by omega, by omega⟩
    have fd : Fits d := ⟨by omega, by omega⟩
    have fg := fits_gcd fa fb
    clear a0 a1 b0 b1 d0 d1
    go_enter Try.func24, Try.ntmps24
    go_wp2_with (fail)
    go_quiet ((first
      | (go_at_call 67; exact r_inBoundsB _ _ _ _ _ (by assumption))
      | (go_at_call 68; exact Calls.quiet_of (r_divisorQ _ _ _ (by assumption) (by assumption)))))
    go_wp2
    go_ret
    exact ⟨ret_bool (by rw [g3_eq]; simp), below_drewN (below_alloc _ _) _⟩

def offV (a b d : Int) (p : Pt) : Int := p.x * d - a - b * p.h
structure OB (a b d : Int) (p : Pt) : Prop where
  m0 : -10000000000000000 ≤ p.x * d
  m1 : p.x * d ≤ 10000000000000000
  n0 : -200000000000000000 ≤ b * p.h
  n1 : b * p.h ≤ 200000000000000000
  o0 : -310000000000000000 ≤ offV a b d p
  o1 : offV a b d p ≤ 310000000000000000
theorem ob_of {a b d : Int} {p : Pt} (hl : LB a b d) (hp : SP p) : OB a b d p := by
  obtain ⟨a0, a1, b0, b1, d0, d1⟩ := hl
  obtain ⟨h0, h1, x0, x1⟩ := hp
  have m := mul_bd (a := p.x) (b := d) (A := 10000) (B := 1000000000000) (by omega) x1 (by omega) d1
  have n := mul_bd (a := b) (b := p.h) (A := 1000000000000) (B := 200000) (by omega) b1 (by omega) h1
  exact ⟨by omega, by omega, by omega, by omega, by unfold offV; omega, by unfold offV; omega⟩

set_option maxRecDepth 20000 in
theorem p_off (a b d : Int) (p : Pt) (w : World) (hl : LB a b d) (hp : SP p) :
    Calls Try.prog 63 #[lineV a b d, .agg #[.int .i64 p.h, .int .i64 p.x]] w fun e w' => e = .returned (.int .i64 (offV a b d p)) ∧ Below w.heap.size w w' := by
  obtain ⟨m0, m1, n0, n1, o0, o1⟩ := ob_of hl hp
  obtain ⟨a0, a1, b0, b1, d0, d1⟩ := hl
  unfold offV at *
  go_enter Try.func63, Try.ntmps63
  go_wp2
  go_ret
  exact ⟨rfl, below_tr (below_alloc _ _) (below_alloc _ _)⟩
set_option maxRecDepth 20000 in
theorem r_off (a b d : Int) (p : Pt) (w : World) (hl : LB a b d) (hp : SP p) :
    Calls Try.prog 91 #[lineV a b d, .agg #[.int .i64 p.h, .int .i64 p.x]] w fun e w' => e = .returned (.int .i64 (offV a b d p)) ∧ Below w.heap.size w w' := by
  obtain ⟨m0, m1, n0, n1, o0, o1⟩ := ob_of hl hp
  obtain ⟨a0, a1, b0, b1, d0, d1⟩ := hl
  unfold offV at *
  go_enter Try.func91, Try.ntmps91
  go_wp2
  go_ret
  exact ⟨rfl, below_tr (below_alloc _ _) (below_alloc _ _)⟩
def farV (a b d : Int) (p : Pt) : Int := (offV a b d p).natAbs
set_option maxRecDepth 20000 in
theorem r_far (a b d : Int) (p : Pt) (w : World) (hl : LB a b d) (hp : SP p) :
    Calls Try.prog 72 #[lineV a b d, .agg #[.int .i64 p.h, .int .i64 p.x]] w fun e w' => e = .returned (.int .i64 (farV a b d p)) ∧ Below w.heap.size w w' := by
  obtain ⟨m0, m1, n0, n1, o0, o1⟩ := ob_of hl hp
  have H := Lib.hid (fun W => r_off a b d p W hl hp)
  unfold farV
  generalize offV a b d p = O at *
  by_cases hn : O < 0
  · have he : ((O.natAbs : Nat) : Int) = -O := by omega
    rw [he]
    clear he
    go_enter Try.func72, Try.ntmps72
    go_wp2_with (go_at_call 91; ((with_reducible refine (H.out _).mono ?_); rintro e w1 ⟨rfl, hb⟩))
    go_ret
    exact ⟨rfl, below_tr (below_tr (below_alloc _ _) (below_alloc _ _)) hb⟩
  · have he : ((O.natAbs : Nat) : Int) = O := by omega
    rw [he]
    clear he
    go_enter Try.func72, Try.ntmps72
    go_wp2_with (go_at_call 91; ((with_reducible refine (H.out _).mono ?_); rintro e w1 ⟨rfl, hb⟩))
    go_ret
    exact ⟨rfl, below_tr (below_tr (below_alloc _ _) (below_alloc _ _)) hb⟩
end Go.Proofs.Ytohbejdfaecghaa
