/- Lean: Reaches, by the program. -/
import Derived.Test.YtohbejdfaecghaaLp
namespace Go.Proofs.Ytohbejdfaecghaa
open Go.RowKit

theorem sq_le {x z : Int} (h1 : -z ≤ x) (h2 : x ≤ z) : 0 ≤ x * x ∧ x * x ≤ z * z := by
  have h := mul_bd (a := x) (b := x) (A := z) (B := z) h1 h2 h1 h2
  exact ⟨by rw [← Int.natAbs_mul_self' x]; exact Int.mul_nonneg (Int.natCast_nonneg _) (Int.natCast_nonneg _), h.2⟩
theorem sq_gt {x z : Int} (h0 : 0 ≤ z) (h : ¬ (-z ≤ x ∧ x ≤ z)) : z * z ≤ x * x := by
  rw [← Int.natAbs_mul_self' x]
  exact Int.mul_le_mul (by omega) (by omega) h0 (by omega)
theorem sq_nn (x : Int) : 0 ≤ x * x := by rw [← Int.natAbs_mul_self' x]; exact Int.mul_nonneg (Int.natCast_nonneg _) (Int.natCast_nonneg _)
theorem rch_way (x y z : Int) (h0 : 0 ≤ z) (hz : z ≤ 2000000000) :
    (wn x (-z) z = false ∧ decide (z * z ≤ x * x + y * y) = true) ∨
    (wn x (-z) z = true ∧ wn y (-z) z = false ∧ decide (z * z ≤ x * x + y * y) = true) ∨
    (wn x (-z) z = true ∧ wn y (-z) z = true ∧ decide (z * z ≤ x * x + y * y) = true ∧ z * z ≤ x * x + y * y ∧ 0 ≤ x * x ∧ x * x ≤ 4000000000000000000 ∧ 0 ≤ y * y ∧ y * y ≤ 4000000000000000000 ∧ z * z ≤ 4000000000000000000) ∨
    (wn x (-z) z = true ∧ wn y (-z) z = true ∧ decide (z * z ≤ x * x + y * y) = false ∧ x * x + y * y < z * z ∧ 0 ≤ x * x ∧ x * x ≤ 4000000000000000000 ∧ 0 ≤ y * y ∧ y * y ≤ 4000000000000000000 ∧ z * z ≤ 4000000000000000000) := by
  have hzz : z * z ≤ 4000000000000000000 := (mul_bd0 h0 hz h0 hz).2
  by_cases hx : wn x (-z) z = true
  · by_cases hy : wn y (-z) z = true
    · have qx := sq_le (wn_iff.1 hx).1 (wn_iff.1 hx).2
      have qy := sq_le (wn_iff.1 hy).1 (wn_iff.1 hy).2
      by_cases h : z * z ≤ x * x + y * y
      · exact Or.inr (Or.inr (Or.inl ⟨hx, hy, decide_eq_true h, h, by omega, by omega, by omega, by omega, by omega⟩))
      · exact Or.inr (Or.inr (Or.inr ⟨hx, hy, decide_eq_false h, by omega, by omega, by omega, by omega, by omega, by omega⟩))
    · have q := sq_gt h0 (fun h => hy (wn_iff.2 h))
      have q2 := sq_nn x
      exact Or.inr (Or.inl ⟨hx, by simpa using hy, decide_eq_true (by omega)⟩)
  · have q := sq_gt h0 (fun h => hx (wn_iff.2 h))
    have q2 := sq_nn y
    exact Or.inl ⟨by simpa using hx, decide_eq_true (by omega)⟩

set_option maxHeartbeats 1000000 in
set_option maxRecDepth 20000 in
theorem p_Reaches (a b : Mk) (f t lim : Int) (w : World) :
    Calls Try.prog 32 #[.agg #[.int .i64 a.h, .int .i64 a.e, .int .i64 a.n], .agg #[.int .i64 b.h, .int .i64 b.e, .int .i64 b.n], .int .i64 f, .int .i64 t, .int .i64 lim] w fun e w' => e = .returned (.tuple #[.int .i64 (rch a b f t lim).1, .int .i64 (rch a b f t lim).2]) ∧ Below w.heap.size w w' := by
  have VA := Lib.hid (fun W => p_marked a W)
  have VB := Lib.hid (fun W => p_marked b W)
  have HL := Lib.hid (fun W => p_within lim 1 20000 W)
  by_cases ha : mkd a = true
  · rw [ha] at VA
    by_cases hb : mkd b = true
    · rw [hb] at VB
      by_cases c1 : f < 0
      · have hr : rch a b f t lim = (0, 7) := by unfold rch; rw [if_pos ⟨ha, hb⟩, if_neg (by omega)]
        rw [hr]
        clear hr ha hb
        go_enter Try.func32, Try.ntmps32
        go_wp2_with (first
          | (go_at_call 75; ((with_reducible refine (VB.out _).mono ?_); rintro e w2 ⟨rfl, d2⟩))
          | (go_at_call 75; ((with_reducible refine (VA.out _).mono ?_); rintro e w1 ⟨rfl, d1⟩; have A1 := ((Blk.new w 48 #[.int .i64 a.h, .int .i64 a.e, .int .i64 a.n]).alloc (.cells #[.int .i64 b.h, .int .i64 b.e, .int .i64 b.n] 48)).below d1 (by simp; omega); have B1 := (blk_second w (.cells #[.int .i64 a.h, .int .i64 a.e, .int .i64 a.n] 48) 48 #[.int .i64 b.h, .int .i64 b.e, .int .i64 b.n]).below d1 (by simp); obtain ⟨x0, x1, x2⟩ := load_mk A1; obtain ⟨y0, y1, y2⟩ := load_mk B1))
          | (go_at_call 65; ((with_reducible refine (HL.out _).mono ?_); rintro e w3 ⟨rfl, rfl⟩)))
        go_ret2
        exact ⟨rfl, below_tr (below_tr (below_tr (below_alloc _ _) (below_alloc _ _)) d1) d2⟩
      · by_cases c2 : t ≤ f
        · have hr : rch a b f t lim = (0, 7) := by unfold rch; rw [if_pos ⟨ha, hb⟩, if_neg (by omega)]
          rw [hr]
          clear hr ha hb
          go_enter Try.func32, Try.ntmps32
          go_wp2_with (first
            | (go_at_call 75; ((with_reducible refine (VB.out _).mono ?_); rintro e w2 ⟨rfl, d2⟩))
            | (go_at_call 75; ((with_reducible refine (VA.out _).mono ?_); rintro e w1 ⟨rfl, d1⟩; have A1 := ((Blk.new w 48 #[.int .i64 a.h, .int .i64 a.e, .int .i64 a.n]).alloc (.cells #[.int .i64 b.h, .int .i64 b.e, .int .i64 b.n] 48)).below d1 (by simp; omega); have B1 := (blk_second w (.cells #[.int .i64 a.h, .int .i64 a.e, .int .i64 a.n] 48) 48 #[.int .i64 b.h, .int .i64 b.e, .int .i64 b.n]).below d1 (by simp); obtain ⟨x0, x1, x2⟩ := load_mk A1; obtain ⟨y0, y1, y2⟩ := load_mk B1))
            | (go_at_call 65; ((with_reducible refine (HL.out _).mono ?_); rintro e w3 ⟨rfl, rfl⟩)))
          go_ret2
          exact ⟨rfl, below_tr (below_tr (below_tr (below_alloc _ _) (below_alloc _ _)) d1) d2⟩
        · by_cases c3 : 100000 < t
          · have hr : rch a b f t lim = (0, 7) := by unfold rch; rw [if_pos ⟨ha, hb⟩, if_neg (by omega)]
            rw [hr]
            clear hr ha hb
            go_enter Try.func32, Try.ntmps32
            go_wp2_with (first
              | (go_at_call 75; ((with_reducible refine (VB.out _).mono ?_); rintro e w2 ⟨rfl, d2⟩))
              | (go_at_call 75; ((with_reducible refine (VA.out _).mono ?_); rintro e w1 ⟨rfl, d1⟩; have A1 := ((Blk.new w 48 #[.int .i64 a.h, .int .i64 a.e, .int .i64 a.n]).alloc (.cells #[.int .i64 b.h, .int .i64 b.e, .int .i64 b.n] 48)).below d1 (by simp; omega); have B1 := (blk_second w (.cells #[.int .i64 a.h, .int .i64 a.e, .int .i64 a.n] 48) 48 #[.int .i64 b.h, .int .i64 b.e, .int .i64 b.n]).below d1 (by simp); obtain ⟨x0, x1, x2⟩ := load_mk A1; obtain ⟨y0, y1, y2⟩ := load_mk B1))
              | (go_at_call 65; ((with_reducible refine (HL.out _).mono ?_); rintro e w3 ⟨rfl, rfl⟩)))
            go_ret2
            exact ⟨rfl, below_tr (below_tr (below_tr (below_alloc _ _) (below_alloc _ _)) d1) d2⟩
          · by_cases c4 : wn lim 1 20000 = true
            · rw [c4] at HL
              rw [wn_iff] at c4
              have hr : rch a b f t lim = rchFind (rchP a b f t lim) 40001 t := by unfold rch; rw [if_pos ⟨ha, hb⟩, if_pos (by omega)]
              rw [hr]
              have sa := sm_of ha
              have sb := sm_of hb
              clear hr ha hb
              obtain ⟨k1, k2⟩ := c4
              have k3 : 0 ≤ f := by omega
              have k4 : f < t := by omega
              have k5 : t ≤ 100000 := by omega
              clear c1 c2 c3
              obtain ⟨l1, l2⟩ := lim_bd k3 k4 k5 k1 k2
              have HP := Lib.hid (show ∀ d, rchP a b f t lim d = decide ((lim * (t - f)) * (lim * (t - f)) ≤ (a.e * (t - f) + (b.e - a.e) * (d - f)) * (a.e * (t - f) + (b.e - a.e) * (d - f)) + (a.n * (t - f) + (b.n - a.n) * (d - f)) * (a.n * (t - f) + (b.n - a.n) * (d - f))) from fun _ => rfl)
              generalize rchP a b f t lim = P at HP ⊢
              obtain ⟨R, H0⟩ : ∃ R, rchFind P 40001 t = R := ⟨_, rfl⟩
              rw [H0]
              have H0 := Lib.hid H0
              go_enter Try.func32, Try.ntmps32
              go_wp2_with (first
                | (go_at_call 75; ((with_reducible refine (VB.out _).mono ?_); rintro e w2 ⟨rfl, d2⟩))
                | (go_at_call 75; ((with_reducible refine (VA.out _).mono ?_); rintro e w1 ⟨rfl, d1⟩; have A1 := ((Blk.new w 48 #[.int .i64 a.h, .int .i64 a.e, .int .i64 a.n]).alloc (.cells #[.int .i64 b.h, .int .i64 b.e, .int .i64 b.n] 48)).below d1 (by simp; omega); have B1 := (blk_second w (.cells #[.int .i64 a.h, .int .i64 a.e, .int .i64 a.n] 48) 48 #[.int .i64 b.h, .int .i64 b.e, .int .i64 b.n]).below d1 (by simp); obtain ⟨x0, x1, x2⟩ := load_mk A1; obtain ⟨y0, y1, y2⟩ := load_mk B1))
                | (go_at_call 65; ((with_reducible refine (HL.out _).mono ?_); rintro e w3 ⟨rfl, rfl⟩)))
              have A2 := A1.below d2 A1.lt
              have B2 := B1.below d2 B1.lt
              have bw : Below w.heap.size w w2 := below_tr (below_tr (below_tr (below_alloc _ _) (below_alloc _ _)) d1) d2
              clear A1 B1 d1 d2 x0 x1 x2 y0 y1 y2
              obtain ⟨x0, x1, x2⟩ := load_mk A2
              obtain ⟨y0, y1, y2⟩ := load_mk B2
              go_loopw [14] (fun x wr => ∃ (d : Int) (k : Nat), x = .int .i64 d ∧ d + k = t + 40001 ∧ t ≤ d ∧ Hid (rchFind P k d = R) ∧ Blk wr w.heap.size 48 #[.int .i64 a.h, .int .i64 a.e, .int .i64 a.n] ∧ Blk wr (w.heap.size + 1) 48 #[.int .i64 b.h, .int .i64 b.e, .int .i64 b.n] ∧ Below w.heap.size w wr) (fun x _ => (t + 40001 - intOf x).toNat)
              case atStart => exact ⟨t, 40001, rfl, by omega, by omega, H0, A2, B2, bw⟩
              case round =>
                clear A2 B2 bw x0 x1 x2 y0 y1 y2
                obtain ⟨d, k, rfl, hk, hd, HK, A2, B2, bw⟩ := hrel
                obtain ⟨x0, x1, x2⟩ := load_mk A2
                obtain ⟨y0, y1, y2⟩ := load_mk B2
                match k, hk, HK with
                | 0, hk, HK =>
                  have HR := Lib.hid (show R = (0, 8) from HK.out.symm)
                  have c1 : t + 40000 < d := by omega
                  go_wp2
                  go_ret2
                  exact ⟨by rw [HR.out]; rfl, bw⟩
                | k + 1, hk, HK =>
                  have c1 : d ≤ t + 40000 := by omega
                  obtain ⟨m1, m2, m3, m4⟩ := rch_bd sa.e0 sa.e1 sb.e0 sb.e1 k3 k4 k5 hd c1
                  obtain ⟨m5, m6, m7, m8⟩ := rch_bd sa.n0 sa.n1 sb.n0 sb.n1 k3 k4 k5 hd c1
                  have SA := sa
                  have SB := sb
                  obtain ⟨s1, s2, s3, s4, s5, s6⟩ := SA
                  obtain ⟨u1, u2, u3, u4, u5, u6⟩ := SB
                  have PX := fun W => p_within (a.e * (t - f) + (b.e - a.e) * (d - f)) (-(lim * (t - f))) (lim * (t - f)) W
                  have PY := fun W => p_within (a.n * (t - f) + (b.n - a.n) * (d - f)) (-(lim * (t - f))) (lim * (t - f)) W
                  have hK : (if P d then (d, 0) else rchFind P k (d + 1)) = R := HK.out
                  have hP := HP.out d
                  clear HK
                  have way := rch_way (a.e * (t - f) + (b.e - a.e) * (d - f)) (a.n * (t - f) + (b.n - a.n) * (d - f)) (lim * (t - f)) l1 l2
                  rw [← hP] at way
                  clear hP
                  rcases way with ⟨h1, h2⟩ | ⟨h1, h3, h2⟩ | ⟨h1, h3, h2, h4, h5, h6, h7, h8, h9⟩ | ⟨h1, h3, h2, h4, h5, h6, h7, h8, h9⟩
                  · rw [h1] at PX
                    rw [h2] at hK
                    have PX := Lib.hid PX
                    have HR := Lib.hid (show R = (d, 0) from hK.symm)
                    clear hK h1 h2 PY
                    go_wp2_with (fail)
                    go_quiet (fail)
                    go_wp2_with (go_at_call 65; ((with_reducible refine (PX.out _).mono ?_); rintro e w3 ⟨rfl, rfl⟩))
                    go_ret2
                    exact ⟨by rw [HR.out]; rfl, below_drewN bw _⟩
                  · rw [h1] at PX
                    rw [h3] at PY
                    rw [h2] at hK
                    have PX := Lib.hid PX
                    have PY := Lib.hid PY
                    have HR := Lib.hid (show R = (d, 0) from hK.symm)
                    clear hK h1 h2 h3
                    go_wp2_with (fail)
                    go_quiet (fail)
                    go_wp2_with (first
                      | (go_at_call 65; ((with_reducible refine (PX.out _).mono ?_); rintro e w3 ⟨rfl, rfl⟩))
                      | (go_at_call 65; ((with_reducible refine (PY.out _).mono ?_); rintro e w3 ⟨rfl, rfl⟩)))
                    go_ret2
                    exact ⟨by rw [HR.out]; rfl, below_drewN bw _⟩
                  · rw [h1] at PX
                    rw [h3] at PY
                    rw [h2] at hK
                    have PX := Lib.hid PX
                    have PY := Lib.hid PY
                    have h10 := sq_nn (lim * (t - f))
                    have HR := Lib.hid (show R = (d, 0) from hK.symm)
                    clear hK h1 h2 h3
                    go_wp2_with (fail)
                    go_quiet (fail)
                    go_wp2_with (first
                      | (go_at_call 65; ((with_reducible refine (PX.out _).mono ?_); rintro e w3 ⟨rfl, rfl⟩))
                      | (go_at_call 65; ((with_reducible refine (PY.out _).mono ?_); rintro e w3 ⟨rfl, rfl⟩)))
                    go_ret2
                    exact ⟨by rw [HR.out]; rfl, below_drewN bw _⟩
                  · rw [h1] at PX
                    rw [h3] at PY
                    rw [h2] at hK
                    have PX := Lib.hid PX
                    have PY := Lib.hid PY
                    have HR := Lib.hid (show rchFind P k (d + 1) = R from hK)
                    clear hK h1 h2 h3
                    go_wp2_with (fail)
                    go_quiet (fail)
                    go_wp2_with (first
                      | (go_at_call 65; ((with_reducible refine (PX.out _).mono ?_); rintro e w3 ⟨rfl, rfl⟩))
                      | (go_at_call 65; ((with_reducible refine (PY.out _).mono ?_); rintro e w3 ⟨rfl, rfl⟩)))
                    all_goals exact ⟨⟨d + 1, k, rfl, by omega, by omega, HR, A2.drewN _, B2.drewN _, below_drewN bw _⟩, by simp only [intOf]; omega⟩
            · have hr : rch a b f t lim = (0, 7) := by unfold rch; rw [if_pos ⟨ha, hb⟩, if_neg (by rw [wn_iff] at c4; omega)]
              rw [hr]
              have c4' : wn lim 1 20000 = false := by simpa using c4
              rw [c4'] at HL
              clear c4 c4'
              clear hr ha hb
              go_enter Try.func32, Try.ntmps32
              go_wp2_with (first
                | (go_at_call 75; ((with_reducible refine (VB.out _).mono ?_); rintro e w2 ⟨rfl, d2⟩))
                | (go_at_call 75; ((with_reducible refine (VA.out _).mono ?_); rintro e w1 ⟨rfl, d1⟩; have A1 := ((Blk.new w 48 #[.int .i64 a.h, .int .i64 a.e, .int .i64 a.n]).alloc (.cells #[.int .i64 b.h, .int .i64 b.e, .int .i64 b.n] 48)).below d1 (by simp; omega); have B1 := (blk_second w (.cells #[.int .i64 a.h, .int .i64 a.e, .int .i64 a.n] 48) 48 #[.int .i64 b.h, .int .i64 b.e, .int .i64 b.n]).below d1 (by simp); obtain ⟨x0, x1, x2⟩ := load_mk A1; obtain ⟨y0, y1, y2⟩ := load_mk B1))
                | (go_at_call 65; ((with_reducible refine (HL.out _).mono ?_); rintro e w3 ⟨rfl, rfl⟩)))
              go_ret2
              exact ⟨rfl, below_tr (below_tr (below_tr (below_alloc _ _) (below_alloc _ _)) d1) d2⟩
    · have hb' : mkd b = false := by simpa using hb
      have hr : rch a b f t lim = (0, 1) := by unfold rch; rw [if_neg (by simp [hb])]
      rw [hr]
      rw [hb'] at VB
      clear hr HL ha hb hb'
      go_enter Try.func32, Try.ntmps32
      go_wp2_with (first
        | (go_at_call 75; ((with_reducible refine (VB.out _).mono ?_); rintro e w2 ⟨rfl, d2⟩))
        | (go_at_call 75; ((with_reducible refine (VA.out _).mono ?_); rintro e w1 ⟨rfl, d1⟩; have A1 := ((Blk.new w 48 #[.int .i64 a.h, .int .i64 a.e, .int .i64 a.n]).alloc (.cells #[.int .i64 b.h, .int .i64 b.e, .int .i64 b.n] 48)).below d1 (by simp; omega); have B1 := (blk_second w (.cells #[.int .i64 a.h, .int .i64 a.e, .int .i64 a.n] 48) 48 #[.int .i64 b.h, .int .i64 b.e, .int .i64 b.n]).below d1 (by simp); obtain ⟨x0, x1, x2⟩ := load_mk A1; obtain ⟨y0, y1, y2⟩ := load_mk B1))
        | (go_at_call 65; ((with_reducible refine (HL.out _).mono ?_); rintro e w3 ⟨rfl, rfl⟩)))
      go_ret2
      exact ⟨rfl, below_tr (below_tr (below_tr (below_alloc _ _) (below_alloc _ _)) d1) d2⟩
  · have ha' : mkd a = false := by simpa using ha
    have hr : rch a b f t lim = (0, 1) := by unfold rch; rw [if_neg (by simp [ha])]
    rw [hr]
    rw [ha'] at VA
    clear hr HL VB ha ha'
    go_enter Try.func32, Try.ntmps32
    go_wp2_with (go_at_call 75; ((with_reducible refine (VA.out _).mono ?_); rintro e w1 ⟨rfl, c1⟩))
    go_ret2
    exact ⟨rfl, below_tr (below_tr (below_alloc _ _) (below_alloc _ _)) c1⟩
end Go.Proofs.Ytohbejdfaecghaa
