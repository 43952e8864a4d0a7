/- Lean: fractions compared, by the reference. -/
import Derived.Test.YtohbejdfaecghaaLf
namespace Go.Proofs.Ytohbejdfaecghaa
open Go.RowKit

theorem r_size (n : Int) (w : World) (h : I64 n) :
    Calls Try.prog 90 #[.int .i64 n] w fun e w' => e = .returned (.int .u64 (n.natAbs : Nat)) ∧ w = w' := by
  obtain ⟨h1, h2⟩ := h
  by_cases hn : n < 0
  · have e1 : IntKind.u64.wrap (-(IntKind.u64.wrap n)) = (n.natAbs : Int) := by rw [IntKind.wrap_u64, IntKind.wrap_u64]; omega
    go_enter Try.func90, Try.ntmps90
    go_wp2
    go_ret
    exact ⟨rfl, rfl⟩
  · have e1 : IntKind.u64.wrap n = (n.natAbs : Int) := by rw [IntKind.wrap_u64]; omega
    go_enter Try.func90, Try.ntmps90
    go_wp2
    go_ret
    exact ⟨rfl, rfl⟩

/-- a product's sign -/
def sgI (a b : Int) : Int := if a = 0 ∨ b = 0 then 0 else if (a < 0 ↔ b < 0) then 1 else -1
theorem r_sign (a b : Int) (w : World) :
    Calls Try.prog 89 #[.int .i64 a, .int .i64 b] w fun e w' => e = .returned (.int .i64 (sgI a b)) ∧ w = w' := by
  by_cases ha : a = 0
  · subst ha
    have e1 := Lib.hid (show sgI 0 b = 0 by unfold sgI; rw [if_pos (Or.inl rfl)])
    go_enter Try.func89, Try.ntmps89
    go_wp2
    go_ret
    exact ⟨ret_int (by rw [e1.out]), rfl⟩
  · by_cases hb : b = 0
    · subst hb
      have e1 := Lib.hid (show sgI a 0 = 0 by unfold sgI; rw [if_pos (Or.inr rfl)])
      have t1 : (a == 0) = false := by simpa using ha
      go_enter Try.func89, Try.ntmps89
      go_wp2
      go_ret
      exact ⟨ret_int (by rw [e1.out]), rfl⟩
    · have t1 : (a == 0) = false := by simpa using ha
      have t2 : (b == 0) = false := by simpa using hb
      by_cases sa : a < 0
      · by_cases sb : b < 0
        · have e1 := Lib.hid (show sgI a b = 1 by unfold sgI; rw [if_neg (by omega), if_pos (by omega)])
          go_enter Try.func89, Try.ntmps89
          go_wp2
          go_ret
          exact ⟨ret_int (by rw [e1.out]), rfl⟩
        · have e1 := Lib.hid (show sgI a b = -1 by unfold sgI; rw [if_neg (by omega), if_neg (by omega)])
          go_enter Try.func89, Try.ntmps89
          go_wp2
          go_ret
          exact ⟨ret_int (by rw [e1.out]), rfl⟩
      · by_cases sb : b < 0
        · have e1 := Lib.hid (show sgI a b = -1 by unfold sgI; rw [if_neg (by omega), if_neg (by omega)])
          go_enter Try.func89, Try.ntmps89
          go_wp2
          go_ret
          exact ⟨ret_int (by rw [e1.out]), rfl⟩
        · have e1 := Lib.hid (show sgI a b = 1 by unfold sgI; rw [if_neg (by omega), if_pos (by omega)])
          go_enter Try.func89, Try.ntmps89
          go_wp2
          go_ret
          exact ⟨ret_int (by rw [e1.out]), rfl⟩

theorem sg3 (a b : Int) : (sgI a b = -1 ∧ a * b < 0 ∧ ((a.natAbs * b.natAbs : Nat) : Int) = -(a * b)) ∨ (sgI a b = 0 ∧ a * b = 0 ∧ ((a.natAbs * b.natAbs : Nat) : Int) = 0) ∨ (sgI a b = 1 ∧ 0 < a * b ∧ ((a.natAbs * b.natAbs : Nat) : Int) = a * b) := by
  have hm : ((a.natAbs * b.natAbs : Nat) : Int) = ((a * b).natAbs : Nat) := by rw [Int.natAbs_mul]
  unfold sgI
  by_cases h0 : a = 0 ∨ b = 0
  · rw [if_pos h0]
    have h1 : a * b = 0 := Int.mul_eq_zero.2 h0
    refine Or.inr (Or.inl ⟨rfl, h1, by omega⟩)
  · rw [if_neg h0]
    by_cases sa : a < 0
    · by_cases sb : b < 0
      · rw [if_pos (by omega)]
        have h1 : 0 < a * b := Int.mul_pos_of_neg_of_neg sa sb
        exact Or.inr (Or.inr ⟨rfl, h1, by omega⟩)
      · rw [if_neg (by omega)]
        have h1 : a * b < 0 := Int.mul_neg_of_neg_of_pos sa (by omega)
        exact Or.inl ⟨rfl, h1, by omega⟩
    · by_cases sb : b < 0
      · rw [if_neg (by omega)]
        have h1 : a * b < 0 := Int.mul_neg_of_pos_of_neg (by omega) sb
        exact Or.inl ⟨rfl, h1, by omega⟩
      · rw [if_pos (by omega)]
        have h1 : 0 < a * b := Int.mul_pos (by omega) (by omega)
        exact Or.inr (Or.inr ⟨rfl, h1, by omega⟩)
theorem cmp_lt {x y : Int} (h : x < y) : cmpI x y = -1 := by unfold cmpI; rw [if_pos h]
theorem cmp_eq {x y : Int} (h : x = y) : cmpI x y = 0 := by unfold cmpI; rw [if_neg (by omega), if_pos h]
theorem cmp_gt {x y : Int} (h : y < x) : cmpI x y = 1 := by unfold cmpI; rw [if_neg (by omega), if_neg (by omega)]
/-- the ways that two products compare -/
theorem prod_ways (a b c d : Int) : ∃ s t r : Int, sgI a b = s ∧ sgI c d = t ∧ cmpI (a * b) (c * d) = r ∧
    ((s = -1 ∧ t = 0 ∧ r = -1) ∨ (s = -1 ∧ t = 1 ∧ r = -1) ∨ (s = 0 ∧ t = 1 ∧ r = -1) ∨ (s = 0 ∧ t = -1 ∧ r = 1) ∨ (s = 1 ∧ t = -1 ∧ r = 1) ∨ (s = 1 ∧ t = 0 ∧ r = 1) ∨
    ((s = 0 ∧ t = 0 ∧ r = 0 ∨ s = 1 ∧ t = 1 ∧ r = 0 ∨ s = -1 ∧ t = -1 ∧ r = 0) ∧ hi64 (a.natAbs * b.natAbs) = hi64 (c.natAbs * d.natAbs) ∧ lo64 (a.natAbs * b.natAbs) = lo64 (c.natAbs * d.natAbs)) ∨
    ((s = 1 ∧ t = 1 ∧ r = -1 ∨ s = -1 ∧ t = -1 ∧ r = 1) ∧ hi64 (a.natAbs * b.natAbs) < hi64 (c.natAbs * d.natAbs)) ∨
    ((s = 1 ∧ t = 1 ∧ r = -1 ∨ s = -1 ∧ t = -1 ∧ r = 1) ∧ hi64 (a.natAbs * b.natAbs) = hi64 (c.natAbs * d.natAbs) ∧ lo64 (a.natAbs * b.natAbs) < lo64 (c.natAbs * d.natAbs)) ∨
    ((s = 1 ∧ t = 1 ∧ r = 1 ∨ s = -1 ∧ t = -1 ∧ r = -1) ∧ hi64 (a.natAbs * b.natAbs) = hi64 (c.natAbs * d.natAbs) ∧ lo64 (c.natAbs * d.natAbs) < lo64 (a.natAbs * b.natAbs)) ∨
    ((s = 1 ∧ t = 1 ∧ r = 1 ∨ s = -1 ∧ t = -1 ∧ r = -1) ∧ hi64 (c.natAbs * d.natAbs) < hi64 (a.natAbs * b.natAbs))) := by
  have W := wide_five (a.natAbs * b.natAbs) (c.natAbs * d.natAbs)
  have X := sg3 a b
  have Y := sg3 c d
  generalize a * b = x at X ⊢
  generalize c * d = y at Y ⊢
  generalize sgI a b = s at X ⊢
  generalize sgI c d = t at Y ⊢
  generalize a.natAbs * b.natAbs = u at X W ⊢
  generalize c.natAbs * d.natAbs = v at Y W ⊢
  refine ⟨s, t, cmpI x y, rfl, rfl, rfl, ?_⟩
  have C : (x < y ∧ cmpI x y = -1) ∨ (x = y ∧ cmpI x y = 0) ∨ (y < x ∧ cmpI x y = 1) := by
    rcases Int.lt_trichotomy x y with h | h | h
    · exact Or.inl ⟨h, cmp_lt h⟩
    · exact Or.inr (Or.inl ⟨h, cmp_eq h⟩)
    · exact Or.inr (Or.inr ⟨h, cmp_gt h⟩)
  generalize cmpI x y = r at C ⊢
  generalize hi64 u = hu at W ⊢
  generalize hi64 v = hv at W ⊢
  generalize lo64 u = lu at W ⊢
  generalize lo64 v = lv at W ⊢
  have Z : (u : Int) = 0 ↔ u = 0 := by omega
  rcases X with ⟨rfl, X1, X2⟩ | ⟨rfl, X1, X2⟩ | ⟨rfl, X1, X2⟩ <;> rcases Y with ⟨rfl, Y1, Y2⟩ | ⟨rfl, Y1, Y2⟩ | ⟨rfl, Y1, Y2⟩ <;> rcases C with ⟨C1, rfl⟩ | ⟨C1, rfl⟩ | ⟨C1, rfl⟩ <;> first | (exfalso; omega) | (simp; done) | (rcases W with ⟨h1, h2⟩ | ⟨h1, h2, h3⟩ | ⟨h1, h2, h3⟩ | ⟨h1, h2, h3⟩ | ⟨h1, h2⟩ <;> first | (exfalso; omega) | (simp [h1]; done) | (simp [h1, h2]; done) | (simp; omega))

set_option maxHeartbeats 4000000 in
set_option maxRecDepth 20000 in
theorem r_Products (a b c d : Int) (w : World) (ha : I64 a) (hb : I64 b) (hc : I64 c) (hd : I64 d) :
    Calls Try.prog 59 #[.int .i64 a, .int .i64 b, .int .i64 c, .int .i64 d] w fun e w' => e = .returned (.int .i64 (cmpI (a * b) (c * d))) ∧ w = w' := by
  have K := prod_ways a b c d
  have g1 : a.natAbs < Q64 := by have := ha.lo; have := ha.hi; unfold Q64; omega
  have g2 : b.natAbs < Q64 := by have := hb.lo; have := hb.hi; unfold Q64; omega
  have g3 : c.natAbs < Q64 := by have := hc.lo; have := hc.hi; unfold Q64; omega
  have g4 : d.natAbs < Q64 := by have := hd.lo; have := hd.hi; unfold Q64; omega
  have S1 : ∀ W, Calls Try.prog 90 #[.int .i64 a] W fun e w' => e = .returned (.int .u64 (a.natAbs : Nat)) ∧ W = w' := fun W => r_size a W ha
  have S2 : ∀ W, Calls Try.prog 90 #[.int .i64 b] W fun e w' => e = .returned (.int .u64 (b.natAbs : Nat)) ∧ W = w' := fun W => r_size b W hb
  have S3 : ∀ W, Calls Try.prog 90 #[.int .i64 c] W fun e w' => e = .returned (.int .u64 (c.natAbs : Nat)) ∧ W = w' := fun W => r_size c W hc
  have S4 : ∀ W, Calls Try.prog 90 #[.int .i64 d] W fun e w' => e = .returned (.int .u64 (d.natAbs : Nat)) ∧ W = w' := fun W => r_size d W hd
  have P1 : ∀ W, Calls Try.prog 57 #[.int .u64 (a.natAbs : Nat), .int .u64 (b.natAbs : Nat)] W fun e w' => e = .returned (.tuple #[.int .u64 (hi64 (a.natAbs * b.natAbs) : Nat), .int .u64 (lo64 (a.natAbs * b.natAbs) : Nat)]) ∧ W = w' := fun W => (c_mul64 _ _ g1 g2 W)
  have P2 : ∀ W, Calls Try.prog 57 #[.int .u64 (c.natAbs : Nat), .int .u64 (d.natAbs : Nat)] W fun e w' => e = .returned (.tuple #[.int .u64 (hi64 (c.natAbs * d.natAbs) : Nat), .int .u64 (lo64 (c.natAbs * d.natAbs) : Nat)]) ∧ W = w' := fun W => (c_mul64 _ _ g3 g4 W)
  have T1 := Lib.hid (fun W => r_sign a b W)
  have T2 := Lib.hid (fun W => r_sign c d W)
  have S1 := Lib.hid S1
  have S2 := Lib.hid S2
  have S3 := Lib.hid S3
  have S4 := Lib.hid S4
  have P1 := Lib.hid P1
  have P2 := Lib.hid P2
  clear ha hb hc hd g1 g2 g3 g4
  obtain ⟨s, t, r, k1, k2, k3, K⟩ := K
  rw [k1] at T1
  rw [k2] at T2
  have HX := Lib.hid k3
  clear k1 k2 k3
  generalize hu : a.natAbs * b.natAbs = u at *
  generalize hv : c.natAbs * d.natAbs = v at *
  clear hu hv
  generalize hi64 u = hu at *
  generalize hi64 v = hv at *
  generalize lo64 u = lu at *
  generalize lo64 v = lv at *
  rcases K with ⟨rfl, rfl, rfl⟩ | ⟨rfl, rfl, rfl⟩ | ⟨rfl, rfl, rfl⟩ | ⟨rfl, rfl, rfl⟩ | ⟨rfl, rfl, rfl⟩ | ⟨rfl, rfl, rfl⟩ | ⟨(⟨rfl, rfl, rfl⟩ | ⟨rfl, rfl, rfl⟩ | ⟨rfl, rfl, rfl⟩), rfl, rfl⟩ | ⟨(⟨rfl, rfl, rfl⟩ | ⟨rfl, rfl, rfl⟩), h1⟩ | ⟨(⟨rfl, rfl, rfl⟩ | ⟨rfl, rfl, rfl⟩), rfl, h1⟩ | ⟨(⟨rfl, rfl, rfl⟩ | ⟨rfl, rfl, rfl⟩), rfl, h1⟩ | ⟨(⟨rfl, rfl, rfl⟩ | ⟨rfl, rfl, rfl⟩), h1⟩
  all_goals
    go_enter Try.func59, Try.ntmps59
    go_wp2_with (first
      | (go_at_call 89; ((with_reducible refine (T1.out _).mono ?_); rintro e w1 ⟨rfl, rfl⟩))
      | (go_at_call 89; ((with_reducible refine (T2.out _).mono ?_); rintro e w1 ⟨rfl, rfl⟩))
      | (go_at_call 90; ((with_reducible refine (S1.out _).mono ?_); rintro e w1 ⟨rfl, rfl⟩))
      | (go_at_call 90; ((with_reducible refine (S2.out _).mono ?_); rintro e w1 ⟨rfl, rfl⟩))
      | (go_at_call 90; ((with_reducible refine (S3.out _).mono ?_); rintro e w1 ⟨rfl, rfl⟩))
      | (go_at_call 90; ((with_reducible refine (S4.out _).mono ?_); rintro e w1 ⟨rfl, rfl⟩))
      | (go_at_call 57; ((with_reducible refine (P1.out _).mono ?_); rintro e w1 ⟨rfl, rfl⟩))
      | (go_at_call 57; ((with_reducible refine (P2.out _).mono ?_); rintro e w1 ⟨rfl, rfl⟩)))
    go_ret
    exact ⟨ret_int (by rw [HX.out]), rfl⟩
end Go.Proofs.Ytohbejdfaecghaa
