/- Stack: Safe and Least, both programs; the statement on safe winds. -/
import Derived.Test.YthoemokkfijfeaaSt
namespace Go.Proofs.Ythoemokkfijfeaa
open Go.RowKit

def safeR (l : List Course) (side : Int) : Int × Int := if windyE l 0 0 side = 0 then (if 0 ≤ safeI l side then (safeI l side, 0) else (0, 8)) else (0, windyE l 0 0 side)
theorem safeI_ge (l : List Course) (side : Int) : -1 ≤ safeI l side := by unfold safeI; split <;> omega

theorem s_safe (A : Option Addr) (l : List Course) (c : Nat) (side : Int) (w : World) (hl : l.length ≤ 100000) (hR : Rd Course.cs 6 w A l) :
    Calls Try.prog 50 #[.slice A l.length c, .int .i64 side] w fun e w' => e = .returned (.tuple #[.int .i64 (safeR l side).1, .int .i64 (safeR l side).2]) ∧ Below w.heap.size w w' := by
  have HC := Lib.hid (s_windy A l c 0 0 side w hl hR)
  by_cases h0 : windyE l 0 0 side = 0
  · obtain ⟨hv, hp0, hp1, hs0, hs1⟩ := windy0 l h0
    have HL := Lib.hid (fun W (h : Below w.heap.size w W) => s_safe0 A l c side W hv (hR.on h) hs0 hs1)
    rw [h0] at HC
    have H0 := Lib.hid h0
    clear h0 hv
    by_cases hs : 0 ≤ safeI l side
    · have HS := Lib.hid hs
      go_enter Try.func50, Try.ntmps50
      go_wp2_with (first
        | (go_at_call 65; refine HC.out.mono ?_; rintro e w1 ⟨rfl, hb1⟩)
        | (go_at_call 79; refine (HL.out _ hb1).mono ?_; rintro e w2 ⟨rfl, hb2⟩; simp only [hs, decide_true]))
      go_ret2
      exact ⟨by simp only [safeR, if_pos H0.out, if_pos HS.out]; rfl, below_tr hb1 hb2⟩
    · have HS := Lib.hid hs
      go_enter Try.func50, Try.ntmps50
      go_wp2_with (first
        | (go_at_call 65; refine HC.out.mono ?_; rintro e w1 ⟨rfl, hb1⟩)
        | (go_at_call 79; refine (HL.out _ hb1).mono ?_; rintro e w2 ⟨rfl, hb2⟩; rw [decide_eq_false (show ¬ 0 ≤ safeI l side by omega)]))
      go_ret2
      exact ⟨by simp only [safeR, if_pos H0.out, if_neg (show ¬ 0 ≤ safeI l side by have := HS.out; omega)]; simp, below_tr hb1 hb2⟩
  · have H0 := Lib.hid h0
    have t1 : (windyE l 0 0 side != 0) = true := by simpa using h0
    clear h0
    go_enter Try.func50, Try.ntmps50
    go_wp2_with (go_at_call 65; refine HC.out.mono ?_; rintro e w1 ⟨rfl, hb1⟩)
    go_ret2
    exact ⟨by simp only [safeR, if_neg H0.out]; rfl, hb1⟩

theorem r_safe (A : Option Addr) (l : List Course) (c : Nat) (side : Int) (w : World) (hl : l.length ≤ 100000) (hR : Rd Course.cs 6 w A l) :
    Calls Try.prog 51 #[.slice A l.length c, .int .i64 side] w fun e w' => e = .returned (.tuple #[.int .i64 (safeR l side).1, .int .i64 (safeR l side).2]) ∧ Below w.heap.size w w' := by
  have HC := Lib.hid (r_bedError A l c 0 0 side w hl hR)
  by_cases h0 : windyE l 0 0 side = 0
  · obtain ⟨hv, hp0, hp1, hs0, hs1⟩ := windy0 l h0
    have HL := Lib.hid (fun W (h : Below w.heap.size w W) => r_safe0 A l c side W hv (hR.on h) hs0 hs1)
    rw [h0] at HC
    have H0 := Lib.hid h0
    clear h0 hv
    by_cases hs : 0 ≤ safeI l side
    · go_enter Try.func51, Try.ntmps51
      go_wp2_with (first
        | (go_at_call 62; refine HC.out.mono ?_; rintro e w1 ⟨rfl, hb1⟩)
        | (go_at_call 80; refine (HL.out _ hb1).mono ?_; rintro e w2 ⟨rfl, hb2⟩))
      go_ret2
      exact ⟨by simp [safeR, H0.out, hs], below_tr hb1 hb2⟩
    · have hs2 : safeI l side < 0 := by omega
      have HS := Lib.hid hs
      clear hs
      go_enter Try.func51, Try.ntmps51
      go_wp2_with (first
        | (go_at_call 62; refine HC.out.mono ?_; rintro e w1 ⟨rfl, hb1⟩)
        | (go_at_call 80; refine (HL.out _ hb1).mono ?_; rintro e w2 ⟨rfl, hb2⟩))
      go_ret2
      exact ⟨by simp only [safeR, if_pos H0.out, if_neg (show ¬ 0 ≤ safeI l side by have := HS.out; omega)]; rfl, below_tr hb1 hb2⟩
  · have H0 := Lib.hid h0
    have t1 : (windyE l 0 0 side != 0) = true := by simpa using h0
    clear h0
    go_enter Try.func51, Try.ntmps51
    go_wp2_with (go_at_call 62; refine HC.out.mono ?_; rintro e w1 ⟨rfl, hb1⟩)
    go_ret2
    exact ⟨by simp only [safeR, if_neg H0.out]; rfl, hb1⟩

def best (v : Nat → Int) : Nat → Int × Int
  | 0 => (0, 0)
  | 1 => (v 0, 0)
  | k + 2 => if v (k + 1) < (best v (k + 1)).1 then (v (k + 1), ((k + 1 : Nat) : Int)) else best v (k + 1)
theorem best_le (v : Nat → Int) : ∀ k j, j < k → (best v k).1 ≤ v j
  | 0, _, h => absurd h (by omega)
  | 1, j, h => by obtain rfl : j = 0 := by omega
                  exact Int.le_refl _
  | k + 2, j, h => by
    unfold best
    rcases Nat.lt_or_ge j (k + 1) with h1 | h1
    · have := best_le v (k + 1) j h1
      split <;> omega
    · obtain rfl : j = k + 1 := by omega
      split <;> omega
theorem best_mem (v : Nat → Int) : ∀ k, ∃ j, j < k + 1 ∧ (best v (k + 1)).1 = v j
  | 0 => ⟨0, by omega, rfl⟩
  | k + 1 => by
    obtain ⟨j, hj, h⟩ := best_mem v k
    unfold best
    split
    · exact ⟨k + 1, by omega, rfl⟩
    · exact ⟨j, by omega, h⟩
theorem best_step (v : Nat → Int) {k : Nat} (h : 0 < k) : best v (k + 1) = if v k < (best v k).1 then (v k, (k : Int)) else best v k := by
  cases k with
  | zero => omega
  | succ k => rfl
def leastR (l : List Course) : Int × Int × Int := if validC l then (if (best (fun k : Nat => safeI l k) 4).1 < 0 then (0, 0, 8) else ((best (fun k : Nat => safeI l k) 4).1, (best (fun k : Nat => safeI l k) 4).2, 0)) else (0, 0, 1)

set_option maxHeartbeats 1000000 in
theorem s_least (A : Option Addr) (l : List Course) (c : Nat) (w : World) (hl : l.length ≤ 100000) (hR : Rd Course.cs 6 w A l) :
    Calls Try.prog 52 #[.slice A l.length c] w fun e w' => e = .returned (.tuple #[.int .i64 (leastR l).1, .int .i64 (leastR l).2.1, .int .i64 (leastR l).2.2]) ∧ Below w.heap.size w w' := by
  have HC := Lib.hid (s_valid A l c w hl hR)
  cases hv : validC l
  · rw [hv] at HC
    have HV := Lib.hid hv
    clear hv
    go_enter Try.func52, Try.ntmps52
    go_wp2_with (go_at_call 17; refine HC.out.mono ?_; rintro e w1 ⟨rfl, hb1⟩)
    go_ret3
    exact ⟨by simp only [leastR, HV.out]; rfl, hb1⟩
  · have HL := Lib.hid (fun (k : Nat) W (hk : k ≤ 3) (h : Below w.heap.size w W) => s_safe0 A l c k W hv (hR.on h) (by omega) (by omega))
    rw [hv] at HC
    have HV := Lib.hid hv
    clear hv
    go_enter Try.func52, Try.ntmps52
    go_wp2_with (go_at_call 17; refine HC.out.mono ?_; rintro e w1 ⟨rfl, hb1⟩)
    go_loopw [2, 3, 11] (fun p sd i wr => ∃ k : Nat, k ≤ 4 ∧ i = .int .i64 k ∧ Below w.heap.size w wr ∧ p = .int .i64 (best (fun k : Nat => safeI l k) k).1 ∧ sd = .int .i64 (best (fun k : Nat => safeI l k) k).2 ∧ Hid (∀ j : Nat, j < k → 0 ≤ safeI l j)) (fun _ _ i _ => 4 - (intOf i).toNat)
    case atStart => exact ⟨0, by omega, rfl, hb1, rfl, rfl, fun j hj => by omega⟩
    case round =>
      obtain ⟨k, hk, rfl, hbw, rfl, rfl, HA⟩ := hrel
      have k0 : (0 : Int) ≤ (k : Int) := Int.natCast_nonneg _
      by_cases hlt : k < 4
      · have k1 : (k : Int) < 4 := by omega
        by_cases hs : 0 ≤ safeI l k
        · have hnx : ∀ j : Nat, j < k + 1 → 0 ≤ safeI l j := fun j hj => by
            rcases Nat.lt_or_ge j k with h | h
            · exact HA.out j h
            · obtain rfl : j = k := by omega
              exact hs
          have HN := Lib.hid hnx
          clear HA hnx
          rcases Nat.eq_zero_or_pos k with hk0 | hk0
          · subst hk0
            go_wp2_with (go_at_call 79; refine (HL.out 0 _ (by omega) hbw).mono ?_; rintro e w2 ⟨rfl, hb2⟩; simp only [hs, decide_true])
            go_roundw
            case rel => exact ⟨1, by omega, rfl, hbw.trans (hb2.mono hbw.size), rfl, rfl, HN.out⟩
            case measure => simp [intOf]
          · have kp : (0 : Int) < (k : Int) := by omega
            by_cases hq : safeI l k < (best (fun k : Nat => safeI l k) k).1
            · have hb : best (fun k : Nat => safeI l k) (k + 1) = (safeI l k, (k : Int)) := (best_step _ hk0).trans (if_pos hq)
              have HB := Lib.hid hb
              clear hb
              generalize best (fun k : Nat => safeI l k) k = bb at *
              go_wp2_with (go_at_call 79; refine (HL.out k _ (by omega) hbw).mono ?_; rintro e w2 ⟨rfl, hb2⟩; simp only [hs, decide_true])
              go_roundw
              case rel => exact ⟨k + 1, by omega, by go_num, hbw.trans (hb2.mono hbw.size), by rw [HB.out], by rw [HB.out], HN.out⟩
              case measure => simp [intOf]; omega
            · have hb : best (fun k : Nat => safeI l k) (k + 1) = best (fun k : Nat => safeI l k) k := (best_step _ hk0).trans (if_neg hq)
              have HB := Lib.hid hb
              clear hb
              generalize best (fun k : Nat => safeI l k) k = bb at *
              go_wp2_with (go_at_call 79; refine (HL.out k _ (by omega) hbw).mono ?_; rintro e w2 ⟨rfl, hb2⟩; simp only [hs, decide_true])
              go_roundw
              case rel => exact ⟨k + 1, by omega, by go_num, hbw.trans (hb2.mono hbw.size), by rw [HB.out], by rw [HB.out], HN.out⟩
              case measure => simp [intOf]; omega
        · have hneg : (best (fun k : Nat => safeI l k) 4).1 < 0 := by
            have := best_le (fun k : Nat => safeI l k) 4 k hlt
            exact Int.lt_of_le_of_lt this (by omega)
          have HG := Lib.hid hneg
          clear hneg
          go_wp2_with (go_at_call 79; refine (HL.out k _ (by omega) hbw).mono ?_; rintro e w2 ⟨rfl, hb2⟩; rw [decide_eq_false (show ¬ 0 ≤ safeI l k by omega)])
          go_ret3
          exact ⟨by simp only [leastR, HV.out, if_true, if_pos HG.out]; rfl, hbw.trans (hb2.mono hbw.size)⟩
      · obtain rfl : k = 4 := by omega
        have hpos : ¬ (best (fun k : Nat => safeI l k) 4).1 < 0 := by
          obtain ⟨j, hj, h⟩ := best_mem (fun k : Nat => safeI l k) 3
          rw [h]; exact Int.not_lt.2 (HA.out j hj)
        have HG := Lib.hid hpos
        clear hpos
        go_wp2
        go_ret3
        exact ⟨by simp only [leastR, HV.out, if_true, if_neg (show ¬ (best (fun k : Nat => safeI l k) 4).1 < 0 by have := HG.out; omega)]; rfl, hbw⟩

set_option maxHeartbeats 1000000 in
theorem r_least (A : Option Addr) (l : List Course) (c : Nat) (w : World) (hl : l.length ≤ 100000) (hR : Rd Course.cs 6 w A l) :
    Calls Try.prog 53 #[.slice A l.length c] w fun e w' => e = .returned (.tuple #[.int .i64 (leastR l).1, .int .i64 (leastR l).2.1, .int .i64 (leastR l).2.2]) ∧ Below w.heap.size w w' := by
  have HC := Lib.hid (r_valid A l c w hl hR)
  cases hv : validC l
  · rw [hv] at HC
    have HV := Lib.hid hv
    clear hv
    go_enter Try.func53, Try.ntmps53
    go_wp2_with (go_at_call 18; refine HC.out.mono ?_; rintro e w1 ⟨rfl, hb1⟩)
    go_ret3
    exact ⟨by simp only [leastR, HV.out]; rfl, hb1⟩
  · have HL := Lib.hid (fun (k : Nat) W (hk : k ≤ 3) (h : Below w.heap.size w W) => r_safe0 A l c k W hv (hR.on h) (by omega) (by omega))
    rw [hv] at HC
    have HV := Lib.hid hv
    clear hv
    go_enter Try.func53, Try.ntmps53
    go_wp2_with (first
      | (go_at_call 18; refine HC.out.mono ?_; rintro e w1 ⟨rfl, hb1⟩)
      | (go_at_call 80; refine (HL.out 0 _ (by omega) hb1).mono ?_; rintro e w2 ⟨rfl, hb2⟩))
    go_loopw [5, 6, 7] (fun p sd i wr => ∃ k : Nat, 0 < k ∧ k ≤ 4 ∧ i = .int .i64 (k : Int) ∧ Below w.heap.size w wr ∧ p = .int .i64 (best (fun k : Nat => safeI l k) k).1 ∧ sd = .int .i64 (best (fun k : Nat => safeI l k) k).2) (fun _ _ i _ => 5 - (intOf i).toNat)
    case atStart => exact ⟨1, by omega, by omega, rfl, below_tr hb1 hb2, rfl, rfl⟩
    case round =>
      obtain ⟨k, hk0, hk, rfl, hbw, rfl, rfl⟩ := hrel
      have k0 : (0 : Int) ≤ (k : Int) := Int.natCast_nonneg _
      by_cases hlt : k < 4
      · have k1 : (k : Int) < 4 := by omega
        by_cases hq : safeI l k < (best (fun k : Nat => safeI l k) k).1
        · have hb : best (fun k : Nat => safeI l k) (k + 1) = (safeI l k, (k : Int)) := (best_step _ hk0).trans (if_pos hq)
          have HB := Lib.hid hb
          clear hb
          generalize best (fun k : Nat => safeI l k) k = bb at *
          go_wp2_with (go_at_call 80; refine (HL.out k _ (by omega) hbw).mono ?_; rintro e w3 ⟨rfl, hb3⟩)
          go_roundw
          case rel => exact ⟨k + 1, by omega, by omega, by go_num, hbw.trans (hb3.mono hbw.size), by rw [HB.out], by rw [HB.out]⟩
          case measure => simp [intOf]; omega
        · have hb : best (fun k : Nat => safeI l k) (k + 1) = best (fun k : Nat => safeI l k) k := (best_step _ hk0).trans (if_neg hq)
          have HB := Lib.hid hb
          clear hb
          generalize best (fun k : Nat => safeI l k) k = bb at *
          go_wp2_with (go_at_call 80; refine (HL.out k _ (by omega) hbw).mono ?_; rintro e w3 ⟨rfl, hb3⟩)
          go_roundw
          case rel => exact ⟨k + 1, by omega, by omega, by go_num, hbw.trans (hb3.mono hbw.size), by rw [HB.out], by rw [HB.out]⟩
          case measure => simp [intOf]; omega
      · obtain rfl : k = 4 := by omega
        by_cases hn : (best (fun k : Nat => safeI l k) 4).1 < 0
        · have HN := Lib.hid hn
          go_wp2
          go_ret3
          exact ⟨by simp only [leastR, HV.out, if_true, if_pos HN.out]; rfl, hbw⟩
        · have HN := Lib.hid hn
          go_wp2
          go_ret3
          exact ⟨by simp only [leastR, HV.out, if_true, if_neg (show ¬ (best (fun k : Nat => safeI l k) 4).1 < 0 by have := HN.out; omega)]; rfl, hbw⟩

set_option maxHeartbeats 1000000 in
theorem l_safe (A : Option Addr) (l : List Course) (c : Nat) (side : Int) (w : World) (hl : l.length ≤ maxLen) (hR : Rd Course.cs 6 w A l) :
    Calls Try.prog 12 #[.slice A l.length c, .int .i64 side] w fun e w' => e = .returned (.bool true) ∧ Below w.heap.size w w' := by
  unfold maxLen at hl
  have hcase : (l.length ≤ 12 ∨ (60 < l.length ∧ l.length ≤ 100)) ∨ (12 < l.length ∧ l.length ≤ 60) ∨ 100 < l.length := by omega
  rcases hcase with h | h
  · have hl2 : l.length ≤ 100000 := by omega
    have H1 := Lib.hid (s_safe A l c side w hl2 hR)
    have H2 := Lib.hid (fun W (h : Below w.heap.size w W) => r_safe A l c side W hl2 (hR.on h))
    have H3 := Lib.hid (fun W (h : Below w.heap.size w W) => s_least A l c W hl2 (hR.on h))
    have H4 := Lib.hid (fun W (h : Below w.heap.size w W) => r_least A l c W hl2 (hR.on h))
    rcases h with h | h
    all_goals
      go_enter Try.func12, Try.ntmps12
      go_wp2_with (first
        | (go_at_call 50; refine H1.out.mono ?_; rintro e w1 ⟨rfl, b1⟩)
        | (go_at_call 51; refine (H2.out _ b1).mono ?_; rintro e w2 ⟨rfl, c2⟩; have b2 : Below w.heap.size w w2 := below_tr b1 c2)
        | (go_at_call 52; refine (H3.out _ b2).mono ?_; rintro e w3 ⟨rfl, c3⟩; have b3 : Below w.heap.size w w3 := below_tr b2 c3)
        | (go_at_call 53; refine (H4.out _ b3).mono ?_; rintro e w4 ⟨rfl, c4⟩; have b4 : Below w.heap.size w w4 := below_tr b3 c4)
        | (go_at_call 14; refine (s_awake _).mono ?_; rintro e w9 ⟨rfl, c9⟩))
      go_ret
      exact ⟨rfl, below_tr b4 c9⟩
  · rcases h with h | h
    all_goals
      go_enter Try.func12, Try.ntmps12
      go_wp2_with (go_at_call 14; refine (s_awake _).mono ?_; rintro e w1 ⟨rfl, hb⟩)
      go_ret
      exact ⟨rfl, hb⟩
end Go.Proofs.Ythoemokkfijfeaa
