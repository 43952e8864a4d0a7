/- Stack: the statement on winds. -/
import Derived.Test.YthoemokkfijfeaaSu
namespace Go.Proofs.Ythoemokkfijfeaa
open Go.RowKit

theorem closed_between {x : Course} {s : List Course} {side q P : Int} (hpu : 0 ≤ push s) (hq : 0 ≤ q) (hqP : q ≤ P) (hs0 : 0 ≤ side) (hs1 : side ≤ 3) (h0 : closedB x s 0 side = true) (hP : closedB x s P side = true) : closedB x s q side = true := by
  have t1 : 0 ≤ q * push s := Int.mul_nonneg hq hpu
  have t2 : q * push s ≤ P * push s := Int.mul_le_mul_of_nonneg_right hqP hpu
  unfold closedB at *
  rw [decide_eq_true_eq] at *
  have key : (armE x s q side).natAbs + (armN x s q side).natAbs ≤ (armE x s 0 side).natAbs + (armN x s 0 side).natAbs ∨ (armE x s q side).natAbs + (armN x s q side).natAbs ≤ (armE x s P side).natAbs + (armN x s P side).natAbs := by
    unfold armE armN
    rcases (by omega : side = 0 ∨ side = 1 ∨ side = 2 ∨ side = 3) with rfl | rfl | rfl | rfl
    all_goals
      simp only [mvE, mvN]
      simp [Int.neg_mul]
      generalize q * push s = tq at *
      generalize P * push s = tP at *
      generalize (es s - wts s * x.e) * 9810000 = E at *
      generalize (ns s - wts s * x.n) * 9810000 = N at *
      omega
  rcases key with h | h
  · exact Nat.le_trans (Nat.mul_le_mul_right _ h) h0
  · exact Nat.le_trans (Nat.mul_le_mul_right _ h) hP

theorem bs_spec (T : Nat → Bool) (lo hi : Nat) (hlt : lo < hi) (hT : T lo = true) (hH : hi = 10001 ∨ T hi = false) (hh : hi ≤ 10001) : T (bs T lo hi) = true ∧ (bs T lo hi = 10000 ∨ T (bs T lo hi + 1) = false) ∧ bs T lo hi ≤ 10000 := by
  by_cases hle : hi ≤ lo + 1
  · rw [bs_end hle]
    obtain rfl : hi = lo + 1 := by omega
    refine ⟨hT, ?_, by omega⟩
    rcases hH with h | h
    · exact .inl (by omega)
    · exact .inr h
  · cases hm : T ((lo + hi) / 2)
    · rw [bs_no hle hm]
      exact bs_spec T lo ((lo + hi) / 2) (by omega) hT (.inr hm) (by omega)
    · rw [bs_yes hle hm]
      exact bs_spec T ((lo + hi) / 2) hi (by omega) hm hH hh
termination_by hi - lo

theorem safeI_spec {l : List Course} {side : Int} (h : 0 ≤ safeI l side) : ∃ P : Nat, safeI l side = P ∧ P ≤ 10000 ∧ tight l side 0 = true ∧ tight l side P = true ∧ (P = 10000 ∨ tight l side (P + 1) = false) := by
  unfold safeI at h ⊢
  cases ht : tight l side 0
  · rw [ht] at h; simp at h
  · obtain ⟨h1, h2, h3⟩ := bs_spec (tight l side) 0 10001 (by omega) ht (.inl rfl) (by omega)
    exact ⟨_, by simp, h3, rfl, h1, h2⟩

theorem tight_between {l : List Course} {side : Int} (hv : validC l = true) (hs0 : 0 ≤ side) (hs1 : side ≤ 3) {P q : Nat} (hq : q ≤ P) (h0 : tight l side 0 = true) (hP : tight l side P = true) : tight l side q = true := by
  rw [tight_iff] at *
  intro j hj
  have hd := sb_of (all_drop (valid_all hv).1 j)
  exact closed_between hd.p0 (by omega) (by omega) hs0 hs1 (h0 j hj) (hP j hj)

theorem windy_p {l : List Course} {side p : Int} (h : windyE l 0 0 side = 0) (h0 : 0 ≤ p) (h1 : p ≤ 10000) : windyE l 0 p side = 0 := by
  obtain ⟨n, hn, hl, hv, _, _, hs0, hs1⟩ := windy_zero h
  unfold windyE
  rw [hv]
  have a1 : wn 0 0 ((l.length : Int) - 1) = true := by rw [wn_iff]; omega
  have a2 : wn p 0 10000 = true := by rw [wn_iff]; omega
  have a3 : wn side 0 3 = true := by rw [wn_iff]; omega
  simp [a1, a2, a3]
theorem open_len {l : List Course} {side : Int} {p : Nat} (h : windyE l 0 p side = 0) : (openR l p side).length = 0 ↔ tight l side p = true := by
  unfold openR tight
  rw [if_pos h, List.length_reverse, beq_iff_eq]

set_option maxHeartbeats 1000000 in
set_option maxRecDepth 20000 in
theorem l_winds (A : Option Addr) (l : List Course) (c : Nat) (side less : Int) (w : World) (hR : Rd Course.cs 6 w A l) :
    Calls Try.prog 11 #[.slice A l.length c, .int .i64 side, .int .i64 less] w fun e w' => e = .returned (.bool true) ∧ Below w.heap.size w w' := by
  by_cases h : l.length ≤ 12
  · have hl2 : l.length ≤ 100000 := by omega
    have H1 := Lib.hid (s_safe A l c side w hl2 hR)
    have H2 := Lib.hid (fun p W (h : Below w.heap.size w W) => s_open A l c p side W hl2 (hR.on h))
    by_cases hok : windyE l 0 0 side = 0 ∧ 0 ≤ safeI l side
    · obtain ⟨h0, hs⟩ := hok
      obtain ⟨P, hP, hP1, ht0, htP, hnx⟩ := safeI_spec hs
      obtain ⟨hv, _, _, hs0, hs1⟩ := windy0 l h0
      have hsr : safeR l side = ((P : Int), 0) := by unfold safeR; rw [if_pos h0, if_pos hs, hP]
      rw [hsr] at H1
      have hwP := windy_p h0 (p := P) (by omega) (by omega)
      have hoP : (openR l P side).length = 0 := (open_len hwP).2 htP
      have hP0 : (0 : Int) ≤ (P : Int) := Int.natCast_nonneg _
      have HA := Lib.hid (H2.out P)
      rw [hwP, hoP] at HA
      have hless : less < 0 ∨ (P : Int) ≤ less ∨ (0 ≤ less ∧ less < P ∧ windyE l 0 less side = 0 ∧ (openR l less side).length = 0) := by
        rcases (by omega : less < 0 ∨ (P : Int) ≤ less ∨ (0 ≤ less ∧ less < P)) with h | h | ⟨h, h'⟩
        · exact .inl h
        · exact .inr (.inl h)
        · obtain ⟨q, rfl⟩ := Int.eq_ofNat_of_zero_le h
          have hq : q < P := by omega
          have hwq := windy_p h0 (p := q) (by omega) (by omega)
          exact .inr (.inr ⟨h, h', hwq, (open_len hwq).2 (tight_between hv hs0 hs1 (by omega) ht0 htP)⟩)
      have hnext : (P : Int) = 10000 ∨ ((P : Int) < 10000 ∧ windyE l 0 ((P : Int) + 1) side = 0 ∧ 0 < (openR l ((P : Int) + 1) side).length) := by
        rcases hnx with h | h
        · exact .inl (by omega)
        · rcases Nat.lt_or_ge P 10000 with h1 | h1
          · have hw := windy_p h0 (p := ((P + 1 : Nat) : Int)) (by omega) (by omega)
            refine .inr ⟨by omega, by simpa using hw, ?_⟩
            rcases Nat.eq_zero_or_pos (openR l ((P : Int) + 1) side).length with h2 | h2
            · have := (open_len hw).1 (by simpa using h2)
              rw [h] at this; cases this
            · exact h2
          · exact .inl (by omega)
      clear hwP hoP ht0 htP hnx hv h0 hs hP hsr
      have hp9 : (P : Int) ≤ 10000 := by omega
      clear hP1
      generalize (P : Int) = p at *
      have hp1 : (0 : Int) ≤ p + 1 := by omega
      rcases hless with hless | hless | ⟨hl0, hl1, hwl, hol⟩
      · rcases hnext with rfl | ⟨hn1, hwn, hon⟩
        · go_enter Try.func11, Try.ntmps11
          go_wp2_with (first
            | (go_at_call 43; refine (HA.out _ b1).mono ?_; rintro e w2 ⟨v2, rfl, hr2, c2⟩; obtain ⟨a2, m2, rfl⟩ := ownsRow_slice hr2; have b2 : Below w.heap.size w w2 := below_tr b1 c2)
            | (go_at_call 50; refine H1.out.mono ?_; rintro e w1 ⟨rfl, b1⟩)
            | (go_at_call 14; refine (s_awake _).mono ?_; rintro e w9 ⟨rfl, c9⟩))
          go_ret
          exact ⟨rfl, below_tr b2 c9⟩
        · have HC := Lib.hid (H2.out (p + 1))
          rw [hwn] at HC
          have hon2 : (0 : Int) < ((openR l (p + 1) side).length : Int) := by omega
          clear hwn hon
          go_enter Try.func11, Try.ntmps11
          go_wp2_with (first
            | (go_at_call 43; refine (HC.out _ b2).mono ?_; rintro e w4 ⟨v4, rfl, hr4, c4⟩; obtain ⟨a4, m4, rfl⟩ := ownsRow_slice hr4; have b4 : Below w.heap.size w w4 := below_tr b2 c4)
            | (go_at_call 43; refine (HA.out _ b1).mono ?_; rintro e w2 ⟨v2, rfl, hr2, c2⟩; obtain ⟨a2, m2, rfl⟩ := ownsRow_slice hr2; have b2 : Below w.heap.size w w2 := below_tr b1 c2)
            | (go_at_call 50; refine H1.out.mono ?_; rintro e w1 ⟨rfl, b1⟩)
            | (go_at_call 14; refine (s_awake _).mono ?_; rintro e w9 ⟨rfl, c9⟩))
          go_ret
          exact ⟨rfl, below_tr b4 c9⟩
      · rcases hnext with rfl | ⟨hn1, hwn, hon⟩
        · go_enter Try.func11, Try.ntmps11
          go_wp2_with (first
            | (go_at_call 43; refine (HA.out _ b1).mono ?_; rintro e w2 ⟨v2, rfl, hr2, c2⟩; obtain ⟨a2, m2, rfl⟩ := ownsRow_slice hr2; have b2 : Below w.heap.size w w2 := below_tr b1 c2)
            | (go_at_call 50; refine H1.out.mono ?_; rintro e w1 ⟨rfl, b1⟩)
            | (go_at_call 14; refine (s_awake _).mono ?_; rintro e w9 ⟨rfl, c9⟩))
          go_ret
          exact ⟨rfl, below_tr b2 c9⟩
        · have HC := Lib.hid (H2.out (p + 1))
          rw [hwn] at HC
          have hon2 : (0 : Int) < ((openR l (p + 1) side).length : Int) := by omega
          clear hwn hon
          go_enter Try.func11, Try.ntmps11
          go_wp2_with (first
            | (go_at_call 43; refine (HC.out _ b2).mono ?_; rintro e w4 ⟨v4, rfl, hr4, c4⟩; obtain ⟨a4, m4, rfl⟩ := ownsRow_slice hr4; have b4 : Below w.heap.size w w4 := below_tr b2 c4)
            | (go_at_call 43; refine (HA.out _ b1).mono ?_; rintro e w2 ⟨v2, rfl, hr2, c2⟩; obtain ⟨a2, m2, rfl⟩ := ownsRow_slice hr2; have b2 : Below w.heap.size w w2 := below_tr b1 c2)
            | (go_at_call 50; refine H1.out.mono ?_; rintro e w1 ⟨rfl, b1⟩)
            | (go_at_call 14; refine (s_awake _).mono ?_; rintro e w9 ⟨rfl, c9⟩))
          go_ret
          exact ⟨rfl, below_tr b4 c9⟩
      · have HB := Lib.hid (H2.out less)
        rw [hwl, hol] at HB
        clear hwl hol
        rcases hnext with rfl | ⟨hn1, hwn, hon⟩
        · go_enter Try.func11, Try.ntmps11
          go_wp2_with (first
            | (go_at_call 43; refine (HB.out _ b2).mono ?_; rintro e w3 ⟨v3, rfl, hr3, c3⟩; obtain ⟨a3, m3, rfl⟩ := ownsRow_slice hr3; have b3 : Below w.heap.size w w3 := below_tr b2 c3)
            | (go_at_call 43; refine (HA.out _ b1).mono ?_; rintro e w2 ⟨v2, rfl, hr2, c2⟩; obtain ⟨a2, m2, rfl⟩ := ownsRow_slice hr2; have b2 : Below w.heap.size w w2 := below_tr b1 c2)
            | (go_at_call 50; refine H1.out.mono ?_; rintro e w1 ⟨rfl, b1⟩)
            | (go_at_call 14; refine (s_awake _).mono ?_; rintro e w9 ⟨rfl, c9⟩))
          go_ret
          exact ⟨rfl, below_tr b3 c9⟩
        · have HC := Lib.hid (H2.out (p + 1))
          rw [hwn] at HC
          have hon2 : (0 : Int) < ((openR l (p + 1) side).length : Int) := by omega
          clear hwn hon
          go_enter Try.func11, Try.ntmps11
          go_wp2_with (first
            | (go_at_call 43; refine (HC.out _ b3).mono ?_; rintro e w4 ⟨v4, rfl, hr4, c4⟩; obtain ⟨a4, m4, rfl⟩ := ownsRow_slice hr4; have b4 : Below w.heap.size w w4 := below_tr b3 c4)
            | (go_at_call 43; refine (HB.out _ b2).mono ?_; rintro e w3 ⟨v3, rfl, hr3, c3⟩; obtain ⟨a3, m3, rfl⟩ := ownsRow_slice hr3; have b3 : Below w.heap.size w w3 := below_tr b2 c3)
            | (go_at_call 43; refine (HA.out _ b1).mono ?_; rintro e w2 ⟨v2, rfl, hr2, c2⟩; obtain ⟨a2, m2, rfl⟩ := ownsRow_slice hr2; have b2 : Below w.heap.size w w2 := below_tr b1 c2)
            | (go_at_call 50; refine H1.out.mono ?_; rintro e w1 ⟨rfl, b1⟩)
            | (go_at_call 14; refine (s_awake _).mono ?_; rintro e w9 ⟨rfl, c9⟩))
          go_ret
          exact ⟨rfl, below_tr b4 c9⟩
    · have hne : (safeR l side).2 ≠ 0 := by
        unfold safeR
        by_cases h0 : windyE l 0 0 side = 0
        · rw [if_pos h0, if_neg (fun h => hok ⟨h0, h⟩)]; simp
        · rw [if_neg h0]; exact h0
      clear hok
      generalize safeR l side = sr at *
      go_enter Try.func11, Try.ntmps11
      go_wp2_with (first
        | (go_at_call 50; refine H1.out.mono ?_; rintro e w1 ⟨rfl, b1⟩)
        | (go_at_call 14; refine (s_awake _).mono ?_; rintro e w9 ⟨rfl, c9⟩))
      go_ret
      exact ⟨rfl, below_tr b1 c9⟩
  · go_enter Try.func11, Try.ntmps11
    go_wp2_with (go_at_call 14; refine (s_awake _).mono ?_; rintro e w1 ⟨rfl, hb⟩)
    go_ret
    exact ⟨rfl, hb⟩
end Go.Proofs.Ythoemokkfijfeaa
