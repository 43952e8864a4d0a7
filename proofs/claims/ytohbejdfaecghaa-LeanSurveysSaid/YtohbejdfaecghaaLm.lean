/- Lean: beyond, by the reference. -/
import Derived.Test.YtohbejdfaecghaaLj
namespace Go.Proofs.Ytohbejdfaecghaa
open Go.RowKit

theorem abs_sq (x : Int) : ((x.natAbs * x.natAbs : Nat) : Int) = x * x := by rw [Int.natCast_mul, Int.natAbs_mul_self']
theorem sq_small {x : Int} (h : I64 x) : x.natAbs * x.natAbs ≤ Q64 * Q64 / 4 := by
  have h1 : x.natAbs ≤ 9223372036854775808 := by have := h.lo; have := h.hi; omega
  calc x.natAbs * x.natAbs ≤ 9223372036854775808 * 9223372036854775808 := Nat.mul_le_mul h1 h1
    _ ≤ Q64 * Q64 / 4 := by decide

set_option maxHeartbeats 4000000 in
set_option maxRecDepth 20000 in
theorem r_beyond (x y z : Int) (w : World) (hx : I64 x) (hy : I64 y) (hz : I64 z) :
    Calls Try.prog 77 #[.int .i64 x, .int .i64 y, .int .i64 z] w fun e w' => e = .returned (.bool (decide (z * z ≤ x * x + y * y))) ∧ w = w' := by
  have g1 : x.natAbs < Q64 := by have := hx.lo; have := hx.hi; unfold Q64; omega
  have g2 : y.natAbs < Q64 := by have := hy.lo; have := hy.hi; unfold Q64; omega
  have g3 : z.natAbs < Q64 := by have := hz.lo; have := hz.hi; unfold Q64; omega
  have q1 := sq_small hx
  have q2 := sq_small hy
  have a1 := abs_sq x
  have a2 := abs_sq y
  have a3 := abs_sq z
  have S1 := Lib.hid (fun W => r_size x W hx)
  have S2 := Lib.hid (fun W => r_size y W hy)
  have S3 := Lib.hid (fun W => r_size z W hz)
  have P1 := Lib.hid (fun W => c_mul64 _ _ g1 g1 W)
  have P2 := Lib.hid (fun W => c_mul64 _ _ g2 g2 W)
  have P3 := Lib.hid (fun W => c_mul64 _ _ g3 g3 W)
  clear hx hy hz g1 g2 g3
  generalize x.natAbs * x.natAbs = u at *
  generalize y.natAbs * y.natAbs = v at *
  generalize z.natAbs * z.natAbs = s at *
  have hq : u + v < Q64 * Q64 := by unfold Q64 at *; omega
  clear q1 q2
  have h1 := hi_add u v
  have h2 := hi_lt hq
  have e1 : IntKind.u64.wrap ((hi64 u : Nat) + (hi64 v : Nat) : Int) = (hi64 u : Nat) + (hi64 v : Nat) := by
    have := wrap_u64 (n := hi64 u + hi64 v) (by omega); simpa using this
  have e2 : IntKind.u64.wrap ((hi64 u : Nat) + (hi64 v : Nat) + (hi64 (lo64 u + lo64 v) : Nat) : Int) = (hi64 (u + v) : Nat) := by
    have := wrap_u64 h2; rw [h1] at this; rw [h1]; simpa using this
  have HC := fun W => c_add64 (lo64 u) (lo64 v) W
  rw [lo_add] at HC
  have KW := wide_five (u + v) s
  have HX : ∀ b : Bool, (b = true ↔ s ≤ u + v) → b = decide (z * z ≤ x * x + y * y) := fun b hb => by
    have : (z * z ≤ x * x + y * y) ↔ s ≤ u + v := by omega
    rw [Bool.eq_iff_iff, hb, decide_eq_true_iff, this]
  clear h1 h2 hq a1 a2 a3
  generalize hi64 (lo64 u + lo64 v) = k at *
  generalize hi64 (u + v) = hw at *
  generalize lo64 (u + v) = lw at *
  rcases KW with ⟨h1, h2⟩ | ⟨h1, h2, h3⟩ | ⟨h1, h2, h3⟩ | ⟨h1, h2, h3⟩ | ⟨h1, h2⟩
  · have HR := Lib.hid (HX false (by simp; omega))
    have t1 : ((hw : Int) == (hi64 s : Nat)) = false := by simp; omega
    clear HX h2
    go_enter Try.func77, Try.ntmps77
    go_wp2_with (first
      | (go_at_call 90; ((with_reducible refine (S1.out _).mono ?_); rintro e w1 ⟨rfl, rfl⟩))
      | (go_at_call 90; ((with_reducible refine (S2.out _).mono ?_); rintro e w1 ⟨rfl, rfl⟩))
      | (go_at_call 90; ((with_reducible refine (S3.out _).mono ?_); rintro e w1 ⟨rfl, rfl⟩))
      | (go_at_call 57; ((with_reducible refine (P1.out _).mono ?_); rintro e w1 ⟨rfl, rfl⟩))
      | (go_at_call 57; ((with_reducible refine (P2.out _).mono ?_); rintro e w1 ⟨rfl, rfl⟩))
      | (go_at_call 57; ((with_reducible refine (P3.out _).mono ?_); rintro e w1 ⟨rfl, rfl⟩)))
    go_ret
    exact ⟨ret_bool (by first | exact HR.out | (rw [← HR.out]; simp; done) | (rw [← HR.out]; simp; omega)), rfl⟩
  · have HR := Lib.hid (HX false (by simp; omega))
    clear HX h3
    go_enter Try.func77, Try.ntmps77
    go_wp2_with (first
      | (go_at_call 90; ((with_reducible refine (S1.out _).mono ?_); rintro e w1 ⟨rfl, rfl⟩))
      | (go_at_call 90; ((with_reducible refine (S2.out _).mono ?_); rintro e w1 ⟨rfl, rfl⟩))
      | (go_at_call 90; ((with_reducible refine (S3.out _).mono ?_); rintro e w1 ⟨rfl, rfl⟩))
      | (go_at_call 57; ((with_reducible refine (P1.out _).mono ?_); rintro e w1 ⟨rfl, rfl⟩))
      | (go_at_call 57; ((with_reducible refine (P2.out _).mono ?_); rintro e w1 ⟨rfl, rfl⟩))
      | (go_at_call 57; ((with_reducible refine (P3.out _).mono ?_); rintro e w1 ⟨rfl, rfl⟩)))
    go_ret
    exact ⟨ret_bool (by first | exact HR.out | (rw [← HR.out]; simp; done) | (rw [← HR.out]; simp; omega)), rfl⟩
  · have HR := Lib.hid (HX true (by simp; omega))
    clear HX h3
    go_enter Try.func77, Try.ntmps77
    go_wp2_with (first
      | (go_at_call 90; ((with_reducible refine (S1.out _).mono ?_); rintro e w1 ⟨rfl, rfl⟩))
      | (go_at_call 90; ((with_reducible refine (S2.out _).mono ?_); rintro e w1 ⟨rfl, rfl⟩))
      | (go_at_call 90; ((with_reducible refine (S3.out _).mono ?_); rintro e w1 ⟨rfl, rfl⟩))
      | (go_at_call 57; ((with_reducible refine (P1.out _).mono ?_); rintro e w1 ⟨rfl, rfl⟩))
      | (go_at_call 57; ((with_reducible refine (P2.out _).mono ?_); rintro e w1 ⟨rfl, rfl⟩))
      | (go_at_call 57; ((with_reducible refine (P3.out _).mono ?_); rintro e w1 ⟨rfl, rfl⟩)))
    go_ret
    exact ⟨ret_bool (by first | exact HR.out | (rw [← HR.out]; simp; done) | (rw [← HR.out]; simp; omega)), rfl⟩
  · have HR := Lib.hid (HX true (by simp; omega))
    clear HX h3
    go_enter Try.func77, Try.ntmps77
    go_wp2_with (first
      | (go_at_call 90; ((with_reducible refine (S1.out _).mono ?_); rintro e w1 ⟨rfl, rfl⟩))
      | (go_at_call 90; ((with_reducible refine (S2.out _).mono ?_); rintro e w1 ⟨rfl, rfl⟩))
      | (go_at_call 90; ((with_reducible refine (S3.out _).mono ?_); rintro e w1 ⟨rfl, rfl⟩))
      | (go_at_call 57; ((with_reducible refine (P1.out _).mono ?_); rintro e w1 ⟨rfl, rfl⟩))
      | (go_at_call 57; ((with_reducible refine (P2.out _).mono ?_); rintro e w1 ⟨rfl, rfl⟩))
      | (go_at_call 57; ((with_reducible refine (P3.out _).mono ?_); rintro e w1 ⟨rfl, rfl⟩)))
    go_ret
    exact ⟨ret_bool (by first | exact HR.out | (rw [← HR.out]; simp; done) | (rw [← HR.out]; simp; omega)), rfl⟩
  · have HR := Lib.hid (HX true (by simp; omega))
    clear HX h2
    go_enter Try.func77, Try.ntmps77
    go_wp2_with (first
      | (go_at_call 90; ((with_reducible refine (S1.out _).mono ?_); rintro e w1 ⟨rfl, rfl⟩))
      | (go_at_call 90; ((with_reducible refine (S2.out _).mono ?_); rintro e w1 ⟨rfl, rfl⟩))
      | (go_at_call 90; ((with_reducible refine (S3.out _).mono ?_); rintro e w1 ⟨rfl, rfl⟩))
      | (go_at_call 57; ((with_reducible refine (P1.out _).mono ?_); rintro e w1 ⟨rfl, rfl⟩))
      | (go_at_call 57; ((with_reducible refine (P2.out _).mono ?_); rintro e w1 ⟨rfl, rfl⟩))
      | (go_at_call 57; ((with_reducible refine (P3.out _).mono ?_); rintro e w1 ⟨rfl, rfl⟩)))
    go_ret
    exact ⟨ret_bool (by first | exact HR.out | (rw [← HR.out]; simp; done) | (rw [← HR.out]; simp; omega)), rfl⟩
end Go.Proofs.Ytohbejdfaecghaa
