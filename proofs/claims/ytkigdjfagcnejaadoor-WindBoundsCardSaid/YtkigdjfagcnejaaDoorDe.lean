/- Wind cards: WindKept walked. -/
import Derived.Test.YtkigdjfagcnejaaDoorDd
set_option linter.unusedSimpArgs false
set_option linter.unusedVariables false
namespace Go.Proofs.YtkigdjfagcnejaaDoor
open Go.RowKit

theorem win_at {fine : Int → Bool} {n fr tu : Int} (h : winE fine n fr tu = 0) : fr ≤ winI fine n fr tu ∧ winI fine n fr tu + n ≤ tu ∧ ∀ i, winI fine n fr tu ≤ i → i < winI fine n fr tu + n → fine i = true := by
  unfold winE at h
  unfold winI
  cases hw : winO fine n fr tu with
  | none => rw [hw] at h; simp at h
  | some k =>
    dsimp only
    unfold winO at hw
    rw [List.find?_range_eq_some] at hw
    obtain ⟨h1, h2, _⟩ := hw
    have hk : k < (tu - fr).toNat := by simpa using h2
    unfold hitB at h1
    rw [Bool.and_eq_true, decide_eq_true_iff] at h1
    obtain ⟨b1, b2, b3⟩ := bgS_bd fine fr k
    refine ⟨b1, by omega, fun i hi1 hi2 => ?_⟩
    by_cases hik : i = fr + k
    · subst hik; exact h1.1
    · exact b3 i hi1 (by omega)
theorem winE_or (fine : Int → Bool) (n fr tu : Int) : winE fine n fr tu = 0 ∨ winE fine n fr tu = 8 := by
  unfold winE
  split
  · exact Or.inl rfl
  · exact Or.inr rfl
theorem fZ_nil {p : Nat → Bool} {n : Nat} (h : fZ p n = []) {k : Nat} (hk : k < n) : p k = false := by
  unfold fZ fN at h
  rw [List.map_eq_nil_iff, List.filter_eq_nil_iff] at h
  have := h k (by simpa using hk)
  simpa using this
set_option maxHeartbeats 1000000 in
set_option maxRecDepth 20000 in
theorem r_sameInts (A B : Option Addr) (l : List Int) (c d : Nat) (w : World) (hl : l.length ≤ 100000) (hA : Rd zC 1 w A l) (hB : Rd zC 1 w B l) :
    Calls Tryd.prog 18 #[.slice A l.length c, .slice B l.length d] w fun e w' => e = .returned (.bool true) ∧ Below w.heap.size w w' := by
  go_enter Tryd.func18, Tryd.ntmps18
  go_wp2
  go_loopw [5] (fun i wr => ∃ k : Nat, k ≤ l.length ∧ i = .int .i64 k ∧ Below w.heap.size w wr) (fun i _ => l.length - (intOf i).toNat)
  case atStart => exact ⟨0, by omega, rfl, below_refl _⟩
  case round =>
    obtain ⟨k, hk, rfl, hbw⟩ := hrel
    by_cases hlt : k < l.length
    · obtain ⟨x, b, off, hx, rfl, hb, c0⟩ := rd_int (hA.on hbw) hlt
      obtain ⟨y, b', off', hy, rfl, hb', d0⟩ := rd_int (hB.on hbw) hlt
      obtain rfl : x = y := by rw [hx] at hy; exact Option.some.inj hy
      have k0 : (0 : Int) ≤ (k : Int) := Int.natCast_nonneg _
      have k1 : (k : Int) < (l.length : Int) := by omega
      clear hx hy
      go_wp2
      go_quiet (fail)
      go_wp2
      go_roundw
      case rel => exact ⟨k + 1, by omega, by go_num, below_drewN hbw _⟩
      case measure => simp [intOf]; omega
    · obtain rfl : k = l.length := by omega
      go_wp2
      go_ret
      exact ⟨rfl, hbw⟩

theorem kept_low {cs : List Ca} {l : List Int} {mk : Int} {i : Nat} (hm : 1 ≤ mk) (hg : vGu l = true) (hk : fZ (kpP cs l) l.length = []) (hi : i < l.length) (hs : suQ mk (ctO cs (i : Int)) = true) : ∃ x, l[i]? = some x ∧ x < mk := by
  obtain ⟨x, hx⟩ := get_lt hi
  have h0 := (vgu hg).2 i x hx
  have h9 := fZ_nil hk hi
  refine ⟨x, hx, ?_⟩
  unfold kpP at h9
  unfold suQ at hs
  rw [getD_of hx] at h9
  split at hs
  · rename_i y hy
    rw [hy] at h9
    dsimp only at h9
    have h10 : y.hi < mk := by simpa using hs
    by_cases h11 : x = -1
    · omega
    · rw [decide_eq_true h11, Bool.true_and, Bool.not_eq_false'] at h9
      have := wn_iff.1 h9
      omega
  · cases hs
set_option maxHeartbeats 4000000 in
set_option maxRecDepth 20000 in
theorem l_WindKept (A : Option Addr) (cs : List Ca) (c : Nat) (B : Option Addr) (l : List Int) (d : Nat) (mk n : Int) (w : World) (hcl0 : cs.length ≤ maxLen) (hR : Rd Ca.cs 4 w A cs) (hl0 : l.length ≤ maxLen) (hS : Rd zC 1 w B l) :
    Calls Tryd.prog 5 #[.slice A cs.length c, .slice B l.length d, .int .i64 mk, .int .i64 n] w fun e w' => e = .returned (.bool true) ∧ Below w.heap.size w w' := by
  have HMA := Lib.hid (fun b (h : manyB l = b) W => h ▸ p_many B l d W hl0)
  unfold maxLen at hl0 hcl0
  by_cases c2 : 220 < (cs.length : Int)
  · clear hR hS
    go_enter Tryd.func5, Tryd.ntmps5
    go_wp2_with (go_at_call 10; ((with_reducible refine (l_awake _).mono ?_); rintro e w1 ⟨rfl, hb1⟩; obtain ⟨hc1, hf1⟩ := bcell hb1; have hz1 := hb1.size; (try simp [sz_drew, sz_drewN] at hz1); (try simp only [sz_drew, sz_drewN] at hc1 hf1)))
    go_ret
    exact ⟨rfl, by (repeat' (first | assumption | exact below_refl _ | refine bl_alloc ?_ _ | refine Below.setCell ?_ ?_ _ | refine below_draw ?_ | refine below_drewN ?_ _ | refine below_tr ?_ (by assumption))) <;> (first | omega | (simp; done) | (simp; omega))⟩
  by_cases c1 : 30 < (cs.length : Int) ∧ (cs.length : Int) ≤ 200
  · obtain ⟨c3, c4⟩ := c1
    clear hR hS
    go_enter Tryd.func5, Tryd.ntmps5
    go_wp2_with (go_at_call 10; ((with_reducible refine (l_awake _).mono ?_); rintro e w1 ⟨rfl, hb1⟩; obtain ⟨hc1, hf1⟩ := bcell hb1; have hz1 := hb1.size; (try simp [sz_drew, sz_drewN] at hz1); (try simp only [sz_drew, sz_drewN] at hc1 hf1)))
    go_ret
    exact ⟨rfl, by (repeat' (first | assumption | exact below_refl _ | refine bl_alloc ?_ _ | refine Below.setCell ?_ ?_ _ | refine below_draw ?_ | refine below_drewN ?_ _ | refine below_tr ?_ (by assumption))) <;> (first | omega | (simp; done) | (simp; omega))⟩
  have hcl : cs.length ≤ 100000 := by omega
  go_enter Tryd.func5, Tryd.ntmps5
  go_wp2_with fail
  refine (l_awake w).mono ?_
  rintro e w1 ⟨rfl, hb1⟩
  go_upto_region 3 with fail
  go_cut [34] (fun s wx => s = .bool (manyB l) ∧ Below w.heap.size w wx)
  case first =>
    by_cases c3 : 30 < (cs.length : Int)
    · have c4 : ¬ (cs.length : Int) ≤ 200 := fun h => c1 ⟨c3, h⟩
      go_wp2_with (go_at_call 15; ((with_reducible refine (HMA.out _ rfl _).mono ?_); rintro e w' ⟨rfl, rfl⟩))
      go_meet
      case rel => exact ⟨by rw [decide_eq_false (show ¬ (220 < (cs.length : Int)) by omega), Bool.false_or], hb1⟩
    · go_wp2_with (go_at_call 15; ((with_reducible refine (HMA.out _ rfl _).mono ?_); rintro e w' ⟨rfl, rfl⟩))
      go_meet
      case rel => exact ⟨by rw [decide_eq_false (show ¬ (220 < (cs.length : Int)) by omega), Bool.false_or], hb1⟩
  case rest =>
    obtain ⟨rfl, B1⟩ := hcut
    clear hb1 c1 c2
    cases hm : manyB l
    rotate_left
    · go_wp2
      go_ret
      exact ⟨rfl, B1⟩
    have hl : l.length ≤ 100000 := by
      unfold manyB at hm
      rw [Bool.or_eq_false_iff, decide_eq_false_iff_not] at hm
      omega
    have hz : (kpZ cs l).length ≤ 100000 := by
      unfold kpZ
      split
      · exact Nat.le_trans (fZ_len _ _) hl
      · exact Nat.zero_le _
    go_wp2_with fail
    refine (p_Kept A B cs l c d wc hcl hl (hR.on B1) (hS.on B1)).mono ?_
    rintro e w2 ⟨v2, rfl, ⟨A2, c2, rfl, r2⟩, hb2⟩
    have B2 := below_tr B1 hb2
    go_wp2_with fail
    refine (r_Kept A B cs l c d w2 hcl hl (hR.on B2) (hS.on B2)).mono ?_
    rintro e w3 ⟨v3, rfl, ⟨A3, c3, rfl, r3⟩, hb3⟩
    have B3 := below_tr B2 hb3
    have s3 := r2.on hb3
    clear B1 hb2 r2 B2 hb3
    go_wp2_with fail
    refine (r_sameInts A2 A3 (kpZ cs l) c2 c3 w3 hz s3 r3).mono ?_
    rintro e w4 ⟨rfl, hb4⟩
    have B4 := below_tr B3 hb4
    clear B3 hb4 s3 r3
    by_cases hE : kpE cs l = 0
    rotate_left
    · have hE1 : kpE cs l = 1 := by
        unfold kpE at hE ⊢
        split at hE
        · omega
        · rename_i h; rw [if_neg h]
      rw [hE1]
      go_wp2_with fail
      go_ret
      exact ⟨rfl, B4⟩
    rw [hE]
    by_cases hZ : 0 < (kpZ cs l).length
    · generalize kpZ cs l = Z at *
      go_wp2_with fail
      go_ret
      exact ⟨rfl, B4⟩
    have hZ0 : kpZ cs l = [] := List.eq_nil_of_length_eq_zero (by omega)
    rw [hZ0]
    by_cases hL : 300 < (l.length : Int)
    · go_wp2_with fail
      go_ret
      exact ⟨rfl, B4⟩
    go_wp2_with fail
    refine (p_Sure A cs c mk n 0 l.length w4 hcl (hR.on B4)).mono ?_
    rintro e w5 ⟨rfl, hb5⟩
    have B5 := below_tr B4 hb5
    clear B4 hb5
    by_cases hs : sfE (suQ mk) cs mk n 0 l.length = 0
    rotate_left
    · generalize sfE (suQ mk) cs mk n 0 l.length = E5 at *
      generalize sfI (suQ mk) cs mk n 0 l.length = I5 at *
      go_wp2_with fail
      go_ret
      exact ⟨rfl, B5⟩
    have hwd : wdE cs mk n 0 l.length = 0 := by
      unfold sfE at hs
      split at hs
      · assumption
      · exact hs
    obtain ⟨_, ⟨m1, _⟩, ⟨n1, n2⟩, _, _⟩ := wdE_z hwd
    have hw : winE (fun t => suQ mk (ctO cs t)) n 0 l.length = 0 := by unfold sfE at hs; rwa [if_pos hwd] at hs
    have hI : sfI (suQ mk) cs mk n 0 l.length = winI (fun t => suQ mk (ctO cs t)) n 0 l.length := by unfold sfI; rw [if_pos hwd]
    obtain ⟨a0, a1, a2⟩ := win_at hw
    rw [hs, hI]
    generalize winI (fun t => suQ mk (ctO cs t)) n 0 l.length = X at *
    obtain ⟨a, rfl⟩ := Int.eq_ofNat_of_zero_le a0
    have hg : vGu l = true := by
      unfold kpE at hE
      split at hE
      · rename_i h; rw [Bool.and_eq_true] at h; exact h.2
      · omega
    have hZ1 : fZ (kpP cs l) l.length = [] := by unfold kpZ at hZ0; rwa [if_pos hE] at hZ0
    have HLOW := Lib.hid (fun (i : Nat) (h1 : a ≤ i) (h2 : (i : Int) < a + n) => kept_low m1 hg hZ1 (show i < l.length by omega) (a2 (i : Int) (by omega) h2))
    clear hI hw hwd hs hE hZ1 hg a2 hZ hZ0 m1
    have hwr : IntKind.i64.wrap ((a : Int) + n) = (a : Int) + n := fits_wrap (by omega)
    go_wp2_with fail
    go_loopw [15] (fun i wr => ∃ k : Nat, a ≤ k ∧ (k : Int) ≤ a + n ∧ i = .int .i64 k ∧ Below w.heap.size w wr) (fun i _ => ((a : Int) + n - intOf i).toNat)
    case atStart => exact ⟨a, Nat.le_refl _, by omega, rfl, B5⟩
    case round =>
      clear B5
      obtain ⟨k, hk0, hk1', rfl, hbw⟩ := hrel
      have kk0 : (0 : Int) ≤ (k : Int) := Int.natCast_nonneg _
      by_cases hlt : (k : Int) < a + n
      · obtain ⟨x, hx, hxm⟩ := HLOW.out k hk0 hlt
        have hkl : k < l.length := (List.getElem?_eq_some_iff.1 hx).1
        have k1 : (k : Int) < (l.length : Int) := by omega
        obtain ⟨x2, xb, xo, hx2, rfl, hxb, c0⟩ := rd_int (hS.on hbw) hkl
        obtain rfl : x2 = x := by rw [hx] at hx2; exact (Option.some.inj hx2).symm
        have k2 : ¬ (l.length : Int) ≤ (k : Int) := by omega
        clear hx hx2
        go_wp2
        go_roundw
        case rel => exact ⟨k + 1, by omega, by omega, by go_num, hbw⟩
        case measure => simp [intOf]; omega
      · go_wp2
        go_ret
        exact ⟨rfl, hbw⟩
end Go.Proofs.YtkigdjfagcnejaaDoor
