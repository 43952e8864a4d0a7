/- Lean: LeanProofs walked. -/
import Derived.Test.YtohbejdfaecghaaLni
import Derived.Test.YtohbejdfaecghaaLdm
import Derived.ChangeKeysEq
set_option linter.unusedSimpArgs false
set_option linter.unusedVariables false
namespace Go.Proofs.Ytohbejdfaecghaa
open Go.RowKit

theorem info_int' : ∃ i : TypeInfo, Try.prog.info? 3 = some i ∧ i.zero = some (.int .i64 0) ∧ i.size = 1 ∧ i.bytes = 8 := info_parts (by kernel_rfl)
theorem eq_arr3 (x y z : Int) (W : World) : (Op.equalIn 10000 49 (.agg #[.int .i64 x, .int .i64 y, .int .i64 z]) (.agg #[.int .i64 x, .int .i64 y, .int .i64 z])).run Try.prog W = .ok true W := by
  obtain ⟨i, hi, _⟩ := info_int'
  rw [show (10000 : Nat) = 9999 + 1 from rfl, run_equalIn_array W 9999 _ _ Try.underlying49 hi, show Try.prog.cellsOf 3 = 1 by kernel_rfl]
  simp [Op.eqItems, List.range_succ, go_sem, run_equalIn_int _ 9998 3 .i64 .i64 _ _ Try.underlying3]
theorem prvs_near {x : Ln} {l : List Pt} {i j k : Int} (h : prvsL x l i j k = true) : nearL l = (x, 0) := by
  unfold prvsL at h
  simp only [Bool.and_eq_true, decide_eq_true_eq] at h
  obtain ⟨hv, hp, h0, h1, h2, h3, h4⟩ := h
  unfold nearL
  rw [if_pos hp, prv_near hv hp (by omega) (by omega) (by omega) h4]
theorem prf_ok {l : List Pt} (h : (prfL l).2 = 0) : (nearL l).2 = 0 ∧ prvsL (nearL l).1 l (prfL l).1.1 (prfL l).1.2.1 (prfL l).1.2.2 = true ∧ ((prfL l).1.1 < 40 ∧ (prfL l).1.2.1 < 40 ∧ (prfL l).1.2.2 < 40) := by
  unfold prfL at *
  split at h
  · rename_i hp
    rw [if_pos hp]
    split at h
    · rename_i t ht
      dsimp only
      have hm := List.mem_of_find?_eq_some ht
      have hb := List.find?_some ht
      obtain ⟨i, j, k⟩ := t
      obtain ⟨h1, h2, h3⟩ := trips_mem hm
      obtain ⟨_, h4⟩ := vld_len hp
      unfold nearL
      rw [if_pos hp]
      refine ⟨rfl, ?_, by dsimp only; omega⟩
      unfold prvsL
      simp only [Bool.and_eq_true, decide_eq_true_eq]
      exact ⟨near_vld hp, hp, by omega, by omega, by omega, by omega, by simpa using hb⟩
    · exact absurd h (by decide)
  · exact absurd h (by decide)
set_option maxHeartbeats 4000000 in
set_option maxRecDepth 20000 in
theorem l_proofs (a b d : Int) (A : Option Addr) (l : List Pt) (c : Nat) (i j k : Int) (w : World) (hR : Rd Pt.cs 2 w A l) (hn : l.length ≤ maxLen) (hi : I64 i) (hj : I64 j) (hk : I64 k) :
    Calls Try.prog 13 #[lineV a b d, .slice A l.length c, .agg #[.int .i64 i, .int .i64 j, .int .i64 k]] w fun e w' => e = .returned (.bool true) ∧ Below w.heap.size w w' := by
  unfold maxLen at hn
  by_cases hlen : 100 < l.length
  · go_enter Try.func13, Try.ntmps13
    go_wp2_with (go_at_call 17; ((with_reducible refine (p_awake _).mono ?_); rintro e w1 ⟨rfl, hb1⟩; obtain ⟨hc1, hf1⟩ := bcell hb1; have hz1 := hb1.size; (try simp [sz_drew, sz_drewN] at hz1); (try simp only [sz_drew, sz_drewN] at hc1 hf1); have z1_0 : w.heap.size < w1.heap.size := (by omega); have z1_1 : w.heap.size + 1 < w1.heap.size := (by omega)))
    go_ret
    exact ⟨rfl, by (repeat' (first | assumption | exact below_refl _ | refine bl_alloc ?_ _ | refine Below.setCell ?_ ?_ _ | refine below_draw ?_ | refine below_drewN ?_ _ | refine below_tr ?_ (by assumption))) <;> (first | omega | (simp; done) | (simp; omega))⟩
  · have HR := Lib.hid hR
    have P1 := fun W (h : Below w.heap.size w W) => p_Proof A l c W (by omega) (HR.out.on h)
    have P2 := fun W (h : Below w.heap.size w W) => r_Proof A l c W (by omega) (HR.out.on h)
    have P3 := fun W (h : Below w.heap.size w W) => p_Proves a b d A l c i j k W (HR.out.on h) (by omega) hi hj hk
    have P4 := fun W (h : Below w.heap.size w W) => r_Proves a b d A l c i j k W (HR.out.on h) (by omega) hi hj hk
    have P5 := fun W (h : Below w.heap.size w W) => p_Nearest A l c W (by omega) (HR.out.on h)
    have hl1 := prvs_near (x := (a, b, d)) (l := l) (i := i) (j := j) (k := k)
    have hl2 := prf_ok (l := l)
    have P6 := fun W (h : Below w.heap.size w W) (h1 : (prfL l).1.1 < 40 ∧ (prfL l).1.2.1 < 40 ∧ (prfL l).1.2.2 < 40) => p_Proves (nearL l).1.1 (nearL l).1.2.1 (nearL l).1.2.2 A l c (prfL l).1.1 (prfL l).1.2.1 (prfL l).1.2.2 W (HR.out.on h) (by omega) ⟨by omega, by omega⟩ ⟨by omega, by omega⟩ ⟨by omega, by omega⟩
    have hsame : prvsL ((nearL l).1.1, (nearL l).1.2.1, (nearL l).1.2.2) l (prfL l).1.1 (prfL l).1.2.1 (prfL l).1.2.2 = prvsL (nearL l).1 l (prfL l).1.1 (prfL l).1.2.1 (prfL l).1.2.2 := rfl
    rw [hsame] at P6
    clear hsame
    generalize prvsL (nearL l).1 l (prfL l).1.1 (prfL l).1.2.1 (prfL l).1.2.2 = ok2 at *
    generalize prvsL (a, b, d) l i j k = ok at *
    generalize prfL l = F at *
    generalize nearL l = N at *
    obtain ⟨⟨x0, x1, x2⟩, ge⟩ := N
    obtain ⟨⟨t0, t1, t2⟩, e⟩ := F
    dsimp only at P1 P2 P5 P6 hl2
    have hq := fun W => eq_arr3 t0 t1 t2 W
    have P1 := Lib.hid P1
    have P2 := Lib.hid P2
    have P3 := Lib.hid P3
    have P4 := Lib.hid P4
    have P5 := Lib.hid P5
    by_cases he : e = 0
    · obtain ⟨g1, g2, g3⟩ := hl2 he
      subst g1 g2 he
      have P6 := Lib.hid (fun W h => P6 W h g3)
      clear hR hl2 g3
      cases ok
      · clear hl1
        go_enter Try.func13, Try.ntmps13
        go_wp2_with (first
          | ((go_at_call 51; ((with_reducible refine (P1.out _ (below_tr (below_alloc _ _) (below_alloc _ _))).mono ?_); rintro e w1 ⟨rfl, hb1⟩; obtain ⟨hc1, hf1⟩ := bcell hb1; have hz1 := hb1.size; (try simp [sz_drew, sz_drewN] at hz1); (try simp only [sz_drew, sz_drewN] at hc1 hf1); have z1_0 : w.heap.size < w1.heap.size := (by omega); have z1_1 : w.heap.size + 1 < w1.heap.size := (by omega))); have B1 : Below w.heap.size w w1 := (by (repeat' (first | assumption | exact below_refl _ | refine bl_alloc ?_ _ | refine Below.setCell ?_ ?_ _ | refine below_draw ?_ | refine below_drewN ?_ _ | refine below_tr ?_ (by assumption))) <;> (first | omega | (simp; done) | (simp; omega))))
          | ((go_at_call 52; ((with_reducible refine (P2.out _ (bl_alloc B1 _)).mono ?_); rintro e w2 ⟨rfl, hb2⟩; obtain ⟨hc2, hf2⟩ := bcell hb2; have hz2 := hb2.size; (try simp [sz_drew, sz_drewN] at hz2); (try simp only [sz_drew, sz_drewN] at hc2 hf2); have z2_0 : w.heap.size < w2.heap.size := (by omega); have z2_1 : w.heap.size + 1 < w2.heap.size := (by omega); have y2_0 : w1.heap.size < w2.heap.size := (by omega))); have B2 : Below w.heap.size w w2 := (by (repeat' (first | assumption | exact below_refl _ | refine bl_alloc ?_ _ | refine Below.setCell ?_ ?_ _ | refine below_draw ?_ | refine below_drewN ?_ _ | refine below_tr ?_ (by assumption))) <;> (first | omega | (simp; done) | (simp; omega))))
          | ((go_at_call 53; ((with_reducible refine (P3.out _ (bl_alloc B2 _)).mono ?_); rintro e w3 ⟨rfl, hb3⟩; obtain ⟨hc3, hf3⟩ := bcell hb3; have hz3 := hb3.size; (try simp [sz_drew, sz_drewN] at hz3); (try simp only [sz_drew, sz_drewN] at hc3 hf3); have z3_0 : w.heap.size < w3.heap.size := (by omega); have z3_1 : w.heap.size + 1 < w3.heap.size := (by omega); have y3_0 : w1.heap.size < w3.heap.size := (by omega); have y3_1 : w2.heap.size < w3.heap.size := (by omega))); have B3 : Below w.heap.size w w3 := (by (repeat' (first | assumption | exact below_refl _ | refine bl_alloc ?_ _ | refine Below.setCell ?_ ?_ _ | refine below_draw ?_ | refine below_drewN ?_ _ | refine below_tr ?_ (by assumption))) <;> (first | omega | (simp; done) | (simp; omega))))
          | ((go_at_call 54; ((with_reducible refine (P4.out _ B3).mono ?_); rintro e w4 ⟨rfl, hb4⟩; obtain ⟨hc4, hf4⟩ := bcell hb4; have hz4 := hb4.size; (try simp [sz_drew, sz_drewN] at hz4); (try simp only [sz_drew, sz_drewN] at hc4 hf4); have z4_0 : w.heap.size < w4.heap.size := (by omega); have z4_1 : w.heap.size + 1 < w4.heap.size := (by omega); have y4_0 : w1.heap.size < w4.heap.size := (by omega); have y4_1 : w2.heap.size < w4.heap.size := (by omega))); have B4 : Below w.heap.size w w4 := (by (repeat' (first | assumption | exact below_refl _ | refine bl_alloc ?_ _ | refine Below.setCell ?_ ?_ _ | refine below_draw ?_ | refine below_drewN ?_ _ | refine below_tr ?_ (by assumption))) <;> (first | omega | (simp; done) | (simp; omega))))
          | ((go_at_call 37; ((with_reducible refine (P5.out _ B4).mono ?_); rintro e w5 ⟨rfl, hb5⟩; obtain ⟨hc5, hf5⟩ := bcell hb5; have hz5 := hb5.size; (try simp [sz_drew, sz_drewN] at hz5); (try simp only [sz_drew, sz_drewN] at hc5 hf5); have z5_0 : w.heap.size < w5.heap.size := (by omega); have z5_1 : w.heap.size + 1 < w5.heap.size := (by omega); have y5_0 : w1.heap.size < w5.heap.size := (by omega); have y5_1 : w2.heap.size < w5.heap.size := (by omega))); have B5 : Below w.heap.size w w5 := (by (repeat' (first | assumption | exact below_refl _ | refine bl_alloc ?_ _ | refine Below.setCell ?_ ?_ _ | refine below_draw ?_ | refine below_drewN ?_ _ | refine below_tr ?_ (by assumption))) <;> (first | omega | (simp; done) | (simp; omega))))
          | (go_at_call 53; ((with_reducible refine (P6.out _ (bl_alloc B5 _)).mono ?_); rintro e w6 ⟨rfl, hb6⟩; obtain ⟨hc6, hf6⟩ := bcell hb6; have hz6 := hb6.size; (try simp [sz_drew, sz_drewN] at hz6); (try simp only [sz_drew, sz_drewN] at hc6 hf6); have z6_0 : w.heap.size < w6.heap.size := (by omega); have z6_1 : w.heap.size + 1 < w6.heap.size := (by omega)))
          | (go_at_call 17; ((with_reducible refine (p_awake _).mono ?_); rintro e w7 ⟨rfl, hb7⟩; obtain ⟨hc7, hf7⟩ := bcell hb7; have hz7 := hb7.size; (try simp [sz_drew, sz_drewN] at hz7); (try simp only [sz_drew, sz_drewN] at hc7 hf7); have z7_0 : w.heap.size < w7.heap.size := (by omega); have z7_1 : w.heap.size + 1 < w7.heap.size := (by omega))))
        go_ret
        exact ⟨rfl, by (repeat' (first | assumption | exact below_refl _ | refine bl_alloc ?_ _ | refine Below.setCell ?_ ?_ _ | refine below_draw ?_ | refine below_drewN ?_ _ | refine below_tr ?_ (by assumption))) <;> (first | omega | (simp; done) | (simp; omega))⟩
      · cases hl1 rfl
        clear hl1
        go_enter Try.func13, Try.ntmps13
        go_wp2_with (first
          | ((go_at_call 51; ((with_reducible refine (P1.out _ (below_tr (below_alloc _ _) (below_alloc _ _))).mono ?_); rintro e w1 ⟨rfl, hb1⟩; obtain ⟨hc1, hf1⟩ := bcell hb1; have hz1 := hb1.size; (try simp [sz_drew, sz_drewN] at hz1); (try simp only [sz_drew, sz_drewN] at hc1 hf1); have z1_0 : w.heap.size < w1.heap.size := (by omega); have z1_1 : w.heap.size + 1 < w1.heap.size := (by omega))); have B1 : Below w.heap.size w w1 := (by (repeat' (first | assumption | exact below_refl _ | refine bl_alloc ?_ _ | refine Below.setCell ?_ ?_ _ | refine below_draw ?_ | refine below_drewN ?_ _ | refine below_tr ?_ (by assumption))) <;> (first | omega | (simp; done) | (simp; omega))))
          | ((go_at_call 52; ((with_reducible refine (P2.out _ (bl_alloc B1 _)).mono ?_); rintro e w2 ⟨rfl, hb2⟩; obtain ⟨hc2, hf2⟩ := bcell hb2; have hz2 := hb2.size; (try simp [sz_drew, sz_drewN] at hz2); (try simp only [sz_drew, sz_drewN] at hc2 hf2); have z2_0 : w.heap.size < w2.heap.size := (by omega); have z2_1 : w.heap.size + 1 < w2.heap.size := (by omega); have y2_0 : w1.heap.size < w2.heap.size := (by omega))); have B2 : Below w.heap.size w w2 := (by (repeat' (first | assumption | exact below_refl _ | refine bl_alloc ?_ _ | refine Below.setCell ?_ ?_ _ | refine below_draw ?_ | refine below_drewN ?_ _ | refine below_tr ?_ (by assumption))) <;> (first | omega | (simp; done) | (simp; omega))))
          | ((go_at_call 53; ((with_reducible refine (P3.out _ (bl_alloc B2 _)).mono ?_); rintro e w3 ⟨rfl, hb3⟩; obtain ⟨hc3, hf3⟩ := bcell hb3; have hz3 := hb3.size; (try simp [sz_drew, sz_drewN] at hz3); (try simp only [sz_drew, sz_drewN] at hc3 hf3); have z3_0 : w.heap.size < w3.heap.size := (by omega); have z3_1 : w.heap.size + 1 < w3.heap.size := (by omega); have y3_0 : w1.heap.size < w3.heap.size := (by omega); have y3_1 : w2.heap.size < w3.heap.size := (by omega))); have B3 : Below w.heap.size w w3 := (by (repeat' (first | assumption | exact below_refl _ | refine bl_alloc ?_ _ | refine Below.setCell ?_ ?_ _ | refine below_draw ?_ | refine below_drewN ?_ _ | refine below_tr ?_ (by assumption))) <;> (first | omega | (simp; done) | (simp; omega))))
          | ((go_at_call 54; ((with_reducible refine (P4.out _ B3).mono ?_); rintro e w4 ⟨rfl, hb4⟩; obtain ⟨hc4, hf4⟩ := bcell hb4; have hz4 := hb4.size; (try simp [sz_drew, sz_drewN] at hz4); (try simp only [sz_drew, sz_drewN] at hc4 hf4); have z4_0 : w.heap.size < w4.heap.size := (by omega); have z4_1 : w.heap.size + 1 < w4.heap.size := (by omega); have y4_0 : w1.heap.size < w4.heap.size := (by omega); have y4_1 : w2.heap.size < w4.heap.size := (by omega))); have B4 : Below w.heap.size w w4 := (by (repeat' (first | assumption | exact below_refl _ | refine bl_alloc ?_ _ | refine Below.setCell ?_ ?_ _ | refine below_draw ?_ | refine below_drewN ?_ _ | refine below_tr ?_ (by assumption))) <;> (first | omega | (simp; done) | (simp; omega))))
          | ((go_at_call 37; ((with_reducible refine (P5.out _ B4).mono ?_); rintro e w5 ⟨rfl, hb5⟩; obtain ⟨hc5, hf5⟩ := bcell hb5; have hz5 := hb5.size; (try simp [sz_drew, sz_drewN] at hz5); (try simp only [sz_drew, sz_drewN] at hc5 hf5); have z5_0 : w.heap.size < w5.heap.size := (by omega); have z5_1 : w.heap.size + 1 < w5.heap.size := (by omega); have y5_0 : w1.heap.size < w5.heap.size := (by omega); have y5_1 : w2.heap.size < w5.heap.size := (by omega))); have B5 : Below w.heap.size w w5 := (by (repeat' (first | assumption | exact below_refl _ | refine bl_alloc ?_ _ | refine Below.setCell ?_ ?_ _ | refine below_draw ?_ | refine below_drewN ?_ _ | refine below_tr ?_ (by assumption))) <;> (first | omega | (simp; done) | (simp; omega))))
          | (go_at_call 53; ((with_reducible refine (P6.out _ (bl_alloc B5 _)).mono ?_); rintro e w6 ⟨rfl, hb6⟩; obtain ⟨hc6, hf6⟩ := bcell hb6; have hz6 := hb6.size; (try simp [sz_drew, sz_drewN] at hz6); (try simp only [sz_drew, sz_drewN] at hc6 hf6); have z6_0 : w.heap.size < w6.heap.size := (by omega); have z6_1 : w.heap.size + 1 < w6.heap.size := (by omega)))
          | (go_at_call 17; ((with_reducible refine (p_awake _).mono ?_); rintro e w7 ⟨rfl, hb7⟩; obtain ⟨hc7, hf7⟩ := bcell hb7; have hz7 := hb7.size; (try simp [sz_drew, sz_drewN] at hz7); (try simp only [sz_drew, sz_drewN] at hc7 hf7); have z7_0 : w.heap.size < w7.heap.size := (by omega); have z7_1 : w.heap.size + 1 < w7.heap.size := (by omega))))
        go_ret
        exact ⟨rfl, by (repeat' (first | assumption | exact below_refl _ | refine bl_alloc ?_ _ | refine Below.setCell ?_ ?_ _ | refine below_draw ?_ | refine below_drewN ?_ _ | refine below_tr ?_ (by assumption))) <;> (first | omega | (simp; done) | (simp; omega))⟩
    · have u1 : (e != 0) = true := by simpa using he
      clear hR hl2 P6
      cases ok
      · clear hl1
        go_enter Try.func13, Try.ntmps13
        go_wp2_with (first
          | ((go_at_call 51; ((with_reducible refine (P1.out _ (below_tr (below_alloc _ _) (below_alloc _ _))).mono ?_); rintro e w1 ⟨rfl, hb1⟩; obtain ⟨hc1, hf1⟩ := bcell hb1; have hz1 := hb1.size; (try simp [sz_drew, sz_drewN] at hz1); (try simp only [sz_drew, sz_drewN] at hc1 hf1); have z1_0 : w.heap.size < w1.heap.size := (by omega); have z1_1 : w.heap.size + 1 < w1.heap.size := (by omega))); have B1 : Below w.heap.size w w1 := (by (repeat' (first | assumption | exact below_refl _ | refine bl_alloc ?_ _ | refine Below.setCell ?_ ?_ _ | refine below_draw ?_ | refine below_drewN ?_ _ | refine below_tr ?_ (by assumption))) <;> (first | omega | (simp; done) | (simp; omega))))
          | ((go_at_call 52; ((with_reducible refine (P2.out _ (bl_alloc B1 _)).mono ?_); rintro e w2 ⟨rfl, hb2⟩; obtain ⟨hc2, hf2⟩ := bcell hb2; have hz2 := hb2.size; (try simp [sz_drew, sz_drewN] at hz2); (try simp only [sz_drew, sz_drewN] at hc2 hf2); have z2_0 : w.heap.size < w2.heap.size := (by omega); have z2_1 : w.heap.size + 1 < w2.heap.size := (by omega); have y2_0 : w1.heap.size < w2.heap.size := (by omega))); have B2 : Below w.heap.size w w2 := (by (repeat' (first | assumption | exact below_refl _ | refine bl_alloc ?_ _ | refine Below.setCell ?_ ?_ _ | refine below_draw ?_ | refine below_drewN ?_ _ | refine below_tr ?_ (by assumption))) <;> (first | omega | (simp; done) | (simp; omega))))
          | ((go_at_call 53; ((with_reducible refine (P3.out _ (bl_alloc B2 _)).mono ?_); rintro e w3 ⟨rfl, hb3⟩; obtain ⟨hc3, hf3⟩ := bcell hb3; have hz3 := hb3.size; (try simp [sz_drew, sz_drewN] at hz3); (try simp only [sz_drew, sz_drewN] at hc3 hf3); have z3_0 : w.heap.size < w3.heap.size := (by omega); have z3_1 : w.heap.size + 1 < w3.heap.size := (by omega); have y3_0 : w1.heap.size < w3.heap.size := (by omega); have y3_1 : w2.heap.size < w3.heap.size := (by omega))); have B3 : Below w.heap.size w w3 := (by (repeat' (first | assumption | exact below_refl _ | refine bl_alloc ?_ _ | refine Below.setCell ?_ ?_ _ | refine below_draw ?_ | refine below_drewN ?_ _ | refine below_tr ?_ (by assumption))) <;> (first | omega | (simp; done) | (simp; omega))))
          | ((go_at_call 54; ((with_reducible refine (P4.out _ B3).mono ?_); rintro e w4 ⟨rfl, hb4⟩; obtain ⟨hc4, hf4⟩ := bcell hb4; have hz4 := hb4.size; (try simp [sz_drew, sz_drewN] at hz4); (try simp only [sz_drew, sz_drewN] at hc4 hf4); have z4_0 : w.heap.size < w4.heap.size := (by omega); have z4_1 : w.heap.size + 1 < w4.heap.size := (by omega); have y4_0 : w1.heap.size < w4.heap.size := (by omega); have y4_1 : w2.heap.size < w4.heap.size := (by omega))); have B4 : Below w.heap.size w w4 := (by (repeat' (first | assumption | exact below_refl _ | refine bl_alloc ?_ _ | refine Below.setCell ?_ ?_ _ | refine below_draw ?_ | refine below_drewN ?_ _ | refine below_tr ?_ (by assumption))) <;> (first | omega | (simp; done) | (simp; omega))))
          | ((go_at_call 37; ((with_reducible refine (P5.out _ B4).mono ?_); rintro e w5 ⟨rfl, hb5⟩; obtain ⟨hc5, hf5⟩ := bcell hb5; have hz5 := hb5.size; (try simp [sz_drew, sz_drewN] at hz5); (try simp only [sz_drew, sz_drewN] at hc5 hf5); have z5_0 : w.heap.size < w5.heap.size := (by omega); have z5_1 : w.heap.size + 1 < w5.heap.size := (by omega); have y5_0 : w1.heap.size < w5.heap.size := (by omega); have y5_1 : w2.heap.size < w5.heap.size := (by omega))); have B5 : Below w.heap.size w w5 := (by (repeat' (first | assumption | exact below_refl _ | refine bl_alloc ?_ _ | refine Below.setCell ?_ ?_ _ | refine below_draw ?_ | refine below_drewN ?_ _ | refine below_tr ?_ (by assumption))) <;> (first | omega | (simp; done) | (simp; omega))))
          | (go_at_call 17; ((with_reducible refine (p_awake _).mono ?_); rintro e w7 ⟨rfl, hb7⟩; obtain ⟨hc7, hf7⟩ := bcell hb7; have hz7 := hb7.size; (try simp [sz_drew, sz_drewN] at hz7); (try simp only [sz_drew, sz_drewN] at hc7 hf7); have z7_0 : w.heap.size < w7.heap.size := (by omega); have z7_1 : w.heap.size + 1 < w7.heap.size := (by omega))))
        go_ret
        exact ⟨rfl, by (repeat' (first | assumption | exact below_refl _ | refine bl_alloc ?_ _ | refine Below.setCell ?_ ?_ _ | refine below_draw ?_ | refine below_drewN ?_ _ | refine below_tr ?_ (by assumption))) <;> (first | omega | (simp; done) | (simp; omega))⟩
      · cases hl1 rfl
        clear hl1
        go_enter Try.func13, Try.ntmps13
        go_wp2_with (first
          | ((go_at_call 51; ((with_reducible refine (P1.out _ (below_tr (below_alloc _ _) (below_alloc _ _))).mono ?_); rintro e w1 ⟨rfl, hb1⟩; obtain ⟨hc1, hf1⟩ := bcell hb1; have hz1 := hb1.size; (try simp [sz_drew, sz_drewN] at hz1); (try simp only [sz_drew, sz_drewN] at hc1 hf1); have z1_0 : w.heap.size < w1.heap.size := (by omega); have z1_1 : w.heap.size + 1 < w1.heap.size := (by omega))); have B1 : Below w.heap.size w w1 := (by (repeat' (first | assumption | exact below_refl _ | refine bl_alloc ?_ _ | refine Below.setCell ?_ ?_ _ | refine below_draw ?_ | refine below_drewN ?_ _ | refine below_tr ?_ (by assumption))) <;> (first | omega | (simp; done) | (simp; omega))))
          | ((go_at_call 52; ((with_reducible refine (P2.out _ (bl_alloc B1 _)).mono ?_); rintro e w2 ⟨rfl, hb2⟩; obtain ⟨hc2, hf2⟩ := bcell hb2; have hz2 := hb2.size; (try simp [sz_drew, sz_drewN] at hz2); (try simp only [sz_drew, sz_drewN] at hc2 hf2); have z2_0 : w.heap.size < w2.heap.size := (by omega); have z2_1 : w.heap.size + 1 < w2.heap.size := (by omega); have y2_0 : w1.heap.size < w2.heap.size := (by omega))); have B2 : Below w.heap.size w w2 := (by (repeat' (first | assumption | exact below_refl _ | refine bl_alloc ?_ _ | refine Below.setCell ?_ ?_ _ | refine below_draw ?_ | refine below_drewN ?_ _ | refine below_tr ?_ (by assumption))) <;> (first | omega | (simp; done) | (simp; omega))))
          | ((go_at_call 53; ((with_reducible refine (P3.out _ (bl_alloc B2 _)).mono ?_); rintro e w3 ⟨rfl, hb3⟩; obtain ⟨hc3, hf3⟩ := bcell hb3; have hz3 := hb3.size; (try simp [sz_drew, sz_drewN] at hz3); (try simp only [sz_drew, sz_drewN] at hc3 hf3); have z3_0 : w.heap.size < w3.heap.size := (by omega); have z3_1 : w.heap.size + 1 < w3.heap.size := (by omega); have y3_0 : w1.heap.size < w3.heap.size := (by omega); have y3_1 : w2.heap.size < w3.heap.size := (by omega))); have B3 : Below w.heap.size w w3 := (by (repeat' (first | assumption | exact below_refl _ | refine bl_alloc ?_ _ | refine Below.setCell ?_ ?_ _ | refine below_draw ?_ | refine below_drewN ?_ _ | refine below_tr ?_ (by assumption))) <;> (first | omega | (simp; done) | (simp; omega))))
          | ((go_at_call 54; ((with_reducible refine (P4.out _ B3).mono ?_); rintro e w4 ⟨rfl, hb4⟩; obtain ⟨hc4, hf4⟩ := bcell hb4; have hz4 := hb4.size; (try simp [sz_drew, sz_drewN] at hz4); (try simp only [sz_drew, sz_drewN] at hc4 hf4); have z4_0 : w.heap.size < w4.heap.size := (by omega); have z4_1 : w.heap.size + 1 < w4.heap.size := (by omega); have y4_0 : w1.heap.size < w4.heap.size := (by omega); have y4_1 : w2.heap.size < w4.heap.size := (by omega))); have B4 : Below w.heap.size w w4 := (by (repeat' (first | assumption | exact below_refl _ | refine bl_alloc ?_ _ | refine Below.setCell ?_ ?_ _ | refine below_draw ?_ | refine below_drewN ?_ _ | refine below_tr ?_ (by assumption))) <;> (first | omega | (simp; done) | (simp; omega))))
          | ((go_at_call 37; ((with_reducible refine (P5.out _ B4).mono ?_); rintro e w5 ⟨rfl, hb5⟩; obtain ⟨hc5, hf5⟩ := bcell hb5; have hz5 := hb5.size; (try simp [sz_drew, sz_drewN] at hz5); (try simp only [sz_drew, sz_drewN] at hc5 hf5); have z5_0 : w.heap.size < w5.heap.size := (by omega); have z5_1 : w.heap.size + 1 < w5.heap.size := (by omega); have y5_0 : w1.heap.size < w5.heap.size := (by omega); have y5_1 : w2.heap.size < w5.heap.size := (by omega))); have B5 : Below w.heap.size w w5 := (by (repeat' (first | assumption | exact below_refl _ | refine bl_alloc ?_ _ | refine Below.setCell ?_ ?_ _ | refine below_draw ?_ | refine below_drewN ?_ _ | refine below_tr ?_ (by assumption))) <;> (first | omega | (simp; done) | (simp; omega))))
          | (go_at_call 17; ((with_reducible refine (p_awake _).mono ?_); rintro e w7 ⟨rfl, hb7⟩; obtain ⟨hc7, hf7⟩ := bcell hb7; have hz7 := hb7.size; (try simp [sz_drew, sz_drewN] at hz7); (try simp only [sz_drew, sz_drewN] at hc7 hf7); have z7_0 : w.heap.size < w7.heap.size := (by omega); have z7_1 : w.heap.size + 1 < w7.heap.size := (by omega))))
        go_ret
        exact ⟨rfl, by (repeat' (first | assumption | exact below_refl _ | refine bl_alloc ?_ _ | refine Below.setCell ?_ ?_ _ | refine below_draw ?_ | refine below_drewN ?_ _ | refine below_tr ?_ (by assumption))) <;> (first | omega | (simp; done) | (simp; omega))⟩
theorem l_proofsF (x : Ln) (A : Option Addr) (l : List Pt) (c : Nat) (n0 n1 n2 : Int) (w : World) (_ : I64 x.1 ∧ I64 x.2.1 ∧ I64 x.2.2) (hn : l.length ≤ maxLen) (hR : Rd Pt.cs 2 w A l) (_ : ∀ p ∈ l, I64 p.h ∧ I64 p.x) (h0 : (Lit.int .i64 n0).wf = true) (h1 : (Lit.int .i64 n1).wf = true) (h2 : (Lit.int .i64 n2).wf = true) :
    Calls Try.prog 13 #[.agg (Lcs x).toArray, .slice A l.length c, .agg #[.int .i64 n0, .int .i64 n1, .int .i64 n2]] w fun e w' => e = .returned (.bool true) ∧ Below w.heap.size w w' := by
  obtain ⟨a, b, d⟩ := x
  exact l_proofs a b d A l c n0 n1 n2 w hR hn (i64_of h0) (i64_of h1) (i64_of h2)
end Go.Proofs.Ytohbejdfaecghaa
