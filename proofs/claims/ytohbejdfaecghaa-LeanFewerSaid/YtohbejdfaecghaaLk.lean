/- Lean: fractions compared, by the reference and as the law says. -/
import Derived.Test.YtohbejdfaecghaaLj
import Derived.Test.YtohbejdfaecghaaLi
namespace Go.Proofs.Ytohbejdfaecghaa
open Go.RowKit

set_option maxHeartbeats 4000000 in
set_option maxRecDepth 20000 in
theorem r_Compare (n d n' d' : Int) (w : World) (hn : I64 n) (hd : I64 d) (hn' : I64 n') (hd' : I64 d') :
    Calls Try.prog 16 #[.agg #[.int .i64 n, .int .i64 d], .agg #[.int .i64 n', .int .i64 d']] w fun e w' => e = .returned (.int .i64 (cmpR n d n' d')) ∧ Below w.heap.size w w' := by
  have im : ∀ x, I64 x → I64 (mx x) := fun x h => by
    have := h.lo; have := h.hi
    constructor <;> (unfold mx; split <;> omega)
  have P := Lib.hid (fun W => r_Products n (mx d') n' (mx d) W hn (im _ hd') hn' (im _ hd))
  have HX := Lib.hid (show cmpI (n * mx d') (n' * mx d) = cmpR n d n' d' from rfl)
  have m1 : ∀ (x : Int), ¬ x ≤ 0 → mx x = x := fun x h => by unfold mx; split <;> omega
  have m2 : ∀ (x : Int), x ≤ 0 → mx x = 1 := fun x h => by unfold mx; split <;> omega
  by_cases c1 : d ≤ 0
  · rw [m2 d c1] at P HX
    by_cases c2 : d' ≤ 0
    · rw [m2 d' c2] at P HX
      clear m1 m2 im
      go_enter Try.func16, Try.ntmps16
      go_wp2_with (go_at_call 59; ((with_reducible refine (P.out _).mono ?_); rintro e w1 ⟨rfl, rfl⟩))
      go_ret
      refine ⟨ret_int (by first | rw [HX.out] | (have h := HX.out; simp only [Int.mul_one] at h; rw [h])), ?_⟩
      exact below_tr (below_alloc _ _) (below_alloc _ _)
    · rw [m1 d' c2] at P HX
      clear m1 m2 im
      go_enter Try.func16, Try.ntmps16
      go_wp2_with (go_at_call 59; ((with_reducible refine (P.out _).mono ?_); rintro e w1 ⟨rfl, rfl⟩))
      go_ret
      refine ⟨ret_int (by first | rw [HX.out] | (have h := HX.out; simp only [Int.mul_one] at h; rw [h])), ?_⟩
      exact below_tr (below_alloc _ _) (below_alloc _ _)
  · rw [m1 d c1] at P HX
    by_cases c2 : d' ≤ 0
    · rw [m2 d' c2] at P HX
      clear m1 m2 im
      go_enter Try.func16, Try.ntmps16
      go_wp2_with (go_at_call 59; ((with_reducible refine (P.out _).mono ?_); rintro e w1 ⟨rfl, rfl⟩))
      go_ret
      refine ⟨ret_int (by first | rw [HX.out] | (have h := HX.out; simp only [Int.mul_one] at h; rw [h])), ?_⟩
      exact below_tr (below_alloc _ _) (below_alloc _ _)
    · rw [m1 d' c2] at P HX
      clear m1 m2 im
      go_enter Try.func16, Try.ntmps16
      go_wp2_with (go_at_call 59; ((with_reducible refine (P.out _).mono ?_); rintro e w1 ⟨rfl, rfl⟩))
      go_ret
      refine ⟨ret_int (by first | rw [HX.out] | (have h := HX.out; simp only [Int.mul_one] at h; rw [h])), ?_⟩
      exact (below_tr (below_alloc _ _) (below_alloc _ _))

theorem cmp_neg (x y : Int) : cmpI y x = -cmpI x y := by
  unfold cmpI
  rcases Int.lt_trichotomy x y with h | h | h
  · rw [if_neg (by omega), if_neg (by omega), if_pos h]; rfl
  · rw [if_neg (by omega), if_pos h.symm, if_neg (by omega), if_pos h]; rfl
  · rw [if_pos h, if_neg (by omega), if_neg (by omega)]
theorem cmpR_neg (n d n' d' : Int) : cmpR n' d' n d = -cmpR n d n' d' := cmp_neg _ _
theorem cmpR_self (n d : Int) : cmpR n d n d = 0 := by unfold cmpR; exact cmp_eq rfl
theorem cmpR_three (n d n' d' : Int) : cmpR n d n' d' = -1 ∨ cmpR n d n' d' = 0 ∨ cmpR n d n' d' = 1 := by
  unfold cmpR cmpI; split
  · exact Or.inl rfl
  · split
    · exact Or.inr (Or.inl rfl)
    · exact Or.inr (Or.inr rfl)

set_option maxHeartbeats 4000000 in
set_option maxRecDepth 20000 in
/-- LeanCompares, walked. -/
theorem l_compares (n d n' d' : Int) (w : World) (hn : I64 n) (hd : I64 d) (hn' : I64 n') (hd' : I64 d') :
    Calls Try.prog 3 #[.agg #[.int .i64 n, .int .i64 d], .agg #[.int .i64 n', .int .i64 d']] w fun e w' => e = .returned (.bool true) ∧ Below w.heap.size w w' := by
  have P1 : ∀ W, Calls Try.prog 15 #[.agg #[.int .i64 n, .int .i64 d], .agg #[.int .i64 n', .int .i64 d']] W fun e w' => e = .returned (.int .i64 (cmpR n d n' d')) ∧ Below W.heap.size W w' := fun W => p_compare n d n' d' W hn hd hn' hd'
  have P2 : ∀ W, Calls Try.prog 15 #[.agg #[.int .i64 n', .int .i64 d'], .agg #[.int .i64 n, .int .i64 d]] W fun e w' => e = .returned (.int .i64 (-cmpR n d n' d')) ∧ Below W.heap.size W w' := fun W => by
    have := p_compare n' d' n d W hn' hd' hn hd
    rwa [cmpR_neg n d n' d'] at this
  have P3 : ∀ W, Calls Try.prog 15 #[.agg #[.int .i64 n, .int .i64 d], .agg #[.int .i64 n, .int .i64 d]] W fun e w' => e = .returned (.int .i64 0) ∧ Below W.heap.size W w' := fun W => by
    have := p_compare n d n d W hn hd hn hd
    rwa [cmpR_self n d] at this
  have P4 : ∀ W, Calls Try.prog 16 #[.agg #[.int .i64 n, .int .i64 d], .agg #[.int .i64 n', .int .i64 d']] W fun e w' => e = .returned (.int .i64 (cmpR n d n' d')) ∧ Below W.heap.size W w' := fun W => r_Compare n d n' d' W hn hd hn' hd'
  have K := cmpR_three n d n' d'
  generalize cmpR n d n' d' = r at P1 P2 P4 K
  have P1 := Lib.hid P1
  have P2 := Lib.hid P2
  have P3 := Lib.hid P3
  have P4 := Lib.hid P4
  clear hn hd hn' hd'
  rcases K with rfl | rfl | rfl
  all_goals
    go_enter Try.func3, Try.ntmps3
    go_wp2_with (first
      | (go_at_call 16; ((with_reducible refine (P4.out _).mono ?_); rintro e w2 ⟨rfl, c2⟩; have D2 := D1.below c2 D1.lt; have E2 := E1.below c2 E1.lt; obtain ⟨x0, x1, _, _⟩ := blk2 D2; obtain ⟨y0, y1, _, _⟩ := blk2 E2))
      | (go_at_call 15; ((with_reducible refine (P2.out _).mono ?_); rintro e w3 ⟨rfl, c3⟩; have D3 := D2.below c3 D2.lt; obtain ⟨u0, u1, _, _⟩ := blk2 D3))
      | (go_at_call 15; ((with_reducible refine (P3.out _).mono ?_); rintro e w4 ⟨rfl, c4⟩))
      | (go_at_call 15; ((with_reducible refine (P1.out _).mono ?_); rintro e w1 ⟨rfl, c1⟩; have D1 := ((Blk.new w 23 #[.int .i64 n, .int .i64 d]).alloc (.cells #[.int .i64 n', .int .i64 d'] 23)).below c1 (by simp; omega); have E1 := (blk_second w (.cells #[.int .i64 n, .int .i64 d] 23) 23 #[.int .i64 n', .int .i64 d']).below c1 (by simp); obtain ⟨t0, t1, _, _⟩ := blk2 D1; obtain ⟨s0, s1, _, _⟩ := blk2 E1))
      | (go_at_call 17; ((with_reducible refine (p_awake _).mono ?_); rintro e w5 ⟨rfl, c5⟩)))
    go_ret
    exact ⟨rfl, below_tr (below_tr (below_tr (below_tr (below_tr (below_tr (below_alloc _ _) (below_alloc _ _)) c1) c2) c3) c4) c5⟩
end Go.Proofs.Ytohbejdfaecghaa
