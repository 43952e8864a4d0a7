/- Lean: Proves by both. -/
import Derived.Test.YtohbejdfaecghaaLnf
import Derived.Test.YtohbejdfaecghaaLva
set_option linter.unusedSimpArgs false
set_option linter.unusedVariables false
namespace Go.Proofs.Ytohbejdfaecghaa
open Go.RowKit

set_option maxHeartbeats 2000000 in
set_option maxRecDepth 20000 in
theorem p_Proves (a b d : Int) (A : Option Addr) (l : List Pt) (c : Nat) (i j k : Int) (w : World) (hR : Rd Pt.cs 2 w A l) (hn : l.length ≤ 100000) (hi : I64 i) (hj : I64 j) (hk : I64 k) :
    Calls Try.prog 53 #[lineV a b d, .slice A l.length c, .agg #[.int .i64 i, .int .i64 j, .int .i64 k]] w fun e w' => e = .returned (.bool (prvsL (a, b, d) l i j k)) ∧ Below w.heap.size w w' := by
  have HV := Lib.hid (fun W (h : Below w.heap.size w W) => p_validPoints A l c W hn (hR.on h))
  have HR := Lib.hid hR
  obtain ⟨i0, i1⟩ := hi
  obtain ⟨j0, j1⟩ := hj
  obtain ⟨k0, k1⟩ := hk
  clear hR
  cases hv : vldL a b d
  · have HB := Lib.hid (show prvsL (a, b, d) l i j k = false by simp [prvsL, hv])
    go_enter Try.func53, Try.ntmps53
    go_wp2_with (go_at_call 23; ((with_reducible refine (calls_bool hv (p_validLine a b d _)).mono ?_); rintro e w1 ⟨rfl, hb1⟩; obtain ⟨hc1, hf1⟩ := bcell hb1; have hz1 := hb1.size; (try simp [sz_drew, sz_drewN] at hz1); (try simp only [sz_drew, sz_drewN] at hc1 hf1); have z1_0 : w.heap.size < w1.heap.size := (by omega); have z1_1 : w.heap.size + 1 < w1.heap.size := (by omega)))
    go_ret
    exact ret_b HB.out.symm (by (repeat' (first | assumption | exact below_refl _ | refine bl_alloc ?_ _ | refine Below.setCell ?_ ?_ _ | refine below_draw ?_ | refine below_drewN ?_ _ | refine below_tr ?_ (by assumption))) <;> (first | omega | (simp; done) | (simp; omega)))
  · cases hp : vldP l
    · have HB := Lib.hid (show prvsL (a, b, d) l i j k = false by simp [prvsL, hp])
      have hd : ¬ d = 0 := by have := vld_pos hv; omega
      go_enter Try.func53, Try.ntmps53
      go_wp2_with (first
        | ((go_at_call 23; ((with_reducible refine (calls_bool hv (p_validLine a b d _)).mono ?_); rintro e w1 ⟨rfl, hb1⟩; obtain ⟨hc1, hf1⟩ := bcell hb1; have hz1 := hb1.size; (try simp [sz_drew, sz_drewN] at hz1); (try simp only [sz_drew, sz_drewN] at hc1 hf1); have z1_0 : w.heap.size < w1.heap.size := (by omega); have z1_1 : w.heap.size + 1 < w1.heap.size := (by omega))); have B1 : Below w.heap.size w w1 := (by (repeat' (first | assumption | exact below_refl _ | refine bl_alloc ?_ _ | refine Below.setCell ?_ ?_ _ | refine below_draw ?_ | refine below_drewN ?_ _ | refine below_tr ?_ (by assumption))) <;> (first | omega | (simp; done) | (simp; omega))))
        | (go_at_call 30; ((with_reducible refine (calls_bool hp (HV.out _ B1)).mono ?_); rintro e w2 ⟨rfl, hb2⟩; obtain ⟨hc2, hf2⟩ := bcell hb2; have hz2 := hb2.size; (try simp [sz_drew, sz_drewN] at hz2); (try simp only [sz_drew, sz_drewN] at hc2 hf2); have z2_0 : w.heap.size < w2.heap.size := (by omega); have z2_1 : w.heap.size + 1 < w2.heap.size := (by omega))))
      go_ret
      exact ret_b HB.out.symm (by (repeat' (first | assumption | exact below_refl _ | refine bl_alloc ?_ _ | refine Below.setCell ?_ ?_ _ | refine below_draw ?_ | refine below_drewN ?_ _ | refine below_tr ?_ (by assumption))) <;> (first | omega | (simp; done) | (simp; omega)))
    · have hd : ¬ d = 0 := by have := vld_pos hv; omega
      by_cases c0 : 0 ≤ i
      rotate_left
      · have HB := Lib.hid (show prvsL (a, b, d) l i j k = false by simp [prvsL, c0])
        have t0 : decide (i < 0) = true := by first | (simp; done) | (simp; omega)
        go_enter Try.func53, Try.ntmps53
        go_wp2_with (first
          | ((go_at_call 23; ((with_reducible refine (calls_bool hv (p_validLine a b d _)).mono ?_); rintro e w1 ⟨rfl, hb1⟩; obtain ⟨hc1, hf1⟩ := bcell hb1; have hz1 := hb1.size; (try simp [sz_drew, sz_drewN] at hz1); (try simp only [sz_drew, sz_drewN] at hc1 hf1); have z1_0 : w.heap.size < w1.heap.size := (by omega); have z1_1 : w.heap.size + 1 < w1.heap.size := (by omega))); have B1 : Below w.heap.size w w1 := (by (repeat' (first | assumption | exact below_refl _ | refine bl_alloc ?_ _ | refine Below.setCell ?_ ?_ _ | refine below_draw ?_ | refine below_drewN ?_ _ | refine below_tr ?_ (by assumption))) <;> (first | omega | (simp; done) | (simp; omega))))
          | (go_at_call 30; ((with_reducible refine (calls_bool hp (HV.out _ B1)).mono ?_); rintro e w2 ⟨rfl, hb2⟩; obtain ⟨hc2, hf2⟩ := bcell hb2; have hz2 := hb2.size; (try simp [sz_drew, sz_drewN] at hz2); (try simp only [sz_drew, sz_drewN] at hc2 hf2); have z2_0 : w.heap.size < w2.heap.size := (by omega); have z2_1 : w.heap.size + 1 < w2.heap.size := (by omega))))
        go_ret
        exact ret_b HB.out.symm (by (repeat' (first | assumption | exact below_refl _ | refine bl_alloc ?_ _ | refine Below.setCell ?_ ?_ _ | refine below_draw ?_ | refine below_drewN ?_ _ | refine below_tr ?_ (by assumption))) <;> (first | omega | (simp; done) | (simp; omega)))
      by_cases c1 : i < j
      rotate_left
      · have HB := Lib.hid (show prvsL (a, b, d) l i j k = false by simp [prvsL, c1])
        have t0 : decide (i < 0) = false := by first | (simp; done) | (simp; omega)
        have t1 : decide (j ≤ i) = true := by first | (simp; done) | (simp; omega)
        go_enter Try.func53, Try.ntmps53
        go_wp2_with (first
          | ((go_at_call 23; ((with_reducible refine (calls_bool hv (p_validLine a b d _)).mono ?_); rintro e w1 ⟨rfl, hb1⟩; obtain ⟨hc1, hf1⟩ := bcell hb1; have hz1 := hb1.size; (try simp [sz_drew, sz_drewN] at hz1); (try simp only [sz_drew, sz_drewN] at hc1 hf1); have z1_0 : w.heap.size < w1.heap.size := (by omega); have z1_1 : w.heap.size + 1 < w1.heap.size := (by omega))); have B1 : Below w.heap.size w w1 := (by (repeat' (first | assumption | exact below_refl _ | refine bl_alloc ?_ _ | refine Below.setCell ?_ ?_ _ | refine below_draw ?_ | refine below_drewN ?_ _ | refine below_tr ?_ (by assumption))) <;> (first | omega | (simp; done) | (simp; omega))))
          | (go_at_call 30; ((with_reducible refine (calls_bool hp (HV.out _ B1)).mono ?_); rintro e w2 ⟨rfl, hb2⟩; obtain ⟨hc2, hf2⟩ := bcell hb2; have hz2 := hb2.size; (try simp [sz_drew, sz_drewN] at hz2); (try simp only [sz_drew, sz_drewN] at hc2 hf2); have z2_0 : w.heap.size < w2.heap.size := (by omega); have z2_1 : w.heap.size + 1 < w2.heap.size := (by omega))))
        go_ret
        exact ret_b HB.out.symm (by (repeat' (first | assumption | exact below_refl _ | refine bl_alloc ?_ _ | refine Below.setCell ?_ ?_ _ | refine below_draw ?_ | refine below_drewN ?_ _ | refine below_tr ?_ (by assumption))) <;> (first | omega | (simp; done) | (simp; omega)))
      by_cases c2 : j < k
      rotate_left
      · have HB := Lib.hid (show prvsL (a, b, d) l i j k = false by simp [prvsL, c2])
        have t0 : decide (i < 0) = false := by first | (simp; done) | (simp; omega)
        have t1 : decide (j ≤ i) = false := by first | (simp; done) | (simp; omega)
        have t2 : decide (k ≤ j) = true := by first | (simp; done) | (simp; omega)
        go_enter Try.func53, Try.ntmps53
        go_wp2_with (first
          | ((go_at_call 23; ((with_reducible refine (calls_bool hv (p_validLine a b d _)).mono ?_); rintro e w1 ⟨rfl, hb1⟩; obtain ⟨hc1, hf1⟩ := bcell hb1; have hz1 := hb1.size; (try simp [sz_drew, sz_drewN] at hz1); (try simp only [sz_drew, sz_drewN] at hc1 hf1); have z1_0 : w.heap.size < w1.heap.size := (by omega); have z1_1 : w.heap.size + 1 < w1.heap.size := (by omega))); have B1 : Below w.heap.size w w1 := (by (repeat' (first | assumption | exact below_refl _ | refine bl_alloc ?_ _ | refine Below.setCell ?_ ?_ _ | refine below_draw ?_ | refine below_drewN ?_ _ | refine below_tr ?_ (by assumption))) <;> (first | omega | (simp; done) | (simp; omega))))
          | (go_at_call 30; ((with_reducible refine (calls_bool hp (HV.out _ B1)).mono ?_); rintro e w2 ⟨rfl, hb2⟩; obtain ⟨hc2, hf2⟩ := bcell hb2; have hz2 := hb2.size; (try simp [sz_drew, sz_drewN] at hz2); (try simp only [sz_drew, sz_drewN] at hc2 hf2); have z2_0 : w.heap.size < w2.heap.size := (by omega); have z2_1 : w.heap.size + 1 < w2.heap.size := (by omega))))
        go_ret
        exact ret_b HB.out.symm (by (repeat' (first | assumption | exact below_refl _ | refine bl_alloc ?_ _ | refine Below.setCell ?_ ?_ _ | refine below_draw ?_ | refine below_drewN ?_ _ | refine below_tr ?_ (by assumption))) <;> (first | omega | (simp; done) | (simp; omega)))
      by_cases c3 : k < (l.length : Int)
      rotate_left
      · have HB := Lib.hid (show prvsL (a, b, d) l i j k = false by simp [prvsL, c3])
        have t0 : decide (i < 0) = false := by first | (simp; done) | (simp; omega)
        have t1 : decide (j ≤ i) = false := by first | (simp; done) | (simp; omega)
        have t2 : decide (k ≤ j) = false := by first | (simp; done) | (simp; omega)
        have t3 : decide ((l.length : Int) ≤ k) = true := by first | (simp; done) | (simp; omega)
        go_enter Try.func53, Try.ntmps53
        go_wp2_with (first
          | ((go_at_call 23; ((with_reducible refine (calls_bool hv (p_validLine a b d _)).mono ?_); rintro e w1 ⟨rfl, hb1⟩; obtain ⟨hc1, hf1⟩ := bcell hb1; have hz1 := hb1.size; (try simp [sz_drew, sz_drewN] at hz1); (try simp only [sz_drew, sz_drewN] at hc1 hf1); have z1_0 : w.heap.size < w1.heap.size := (by omega); have z1_1 : w.heap.size + 1 < w1.heap.size := (by omega))); have B1 : Below w.heap.size w w1 := (by (repeat' (first | assumption | exact below_refl _ | refine bl_alloc ?_ _ | refine Below.setCell ?_ ?_ _ | refine below_draw ?_ | refine below_drewN ?_ _ | refine below_tr ?_ (by assumption))) <;> (first | omega | (simp; done) | (simp; omega))))
          | (go_at_call 30; ((with_reducible refine (calls_bool hp (HV.out _ B1)).mono ?_); rintro e w2 ⟨rfl, hb2⟩; obtain ⟨hc2, hf2⟩ := bcell hb2; have hz2 := hb2.size; (try simp [sz_drew, sz_drewN] at hz2); (try simp only [sz_drew, sz_drewN] at hc2 hf2); have z2_0 : w.heap.size < w2.heap.size := (by omega); have z2_1 : w.heap.size + 1 < w2.heap.size := (by omega))))
        go_ret
        exact ret_b HB.out.symm (by (repeat' (first | assumption | exact below_refl _ | refine bl_alloc ?_ _ | refine Below.setCell ?_ ?_ _ | refine below_draw ?_ | refine below_drewN ?_ _ | refine below_tr ?_ (by assumption))) <;> (first | omega | (simp; done) | (simp; omega)))
      obtain ⟨i, rfl⟩ : ∃ m : Nat, i = m := ⟨i.toNat, by omega⟩
      obtain ⟨j, rfl⟩ : ∃ m : Nat, j = m := ⟨j.toNat, by omega⟩
      obtain ⟨k, rfl⟩ : ∃ m : Nat, k = m := ⟨k.toNat, by omega⟩
      have HB := Lib.hid (show prvsL (a, b, d) l i j k = prvB (a, b, d) l (i, j, k) by have a1 : i < j := (by omega); have a2 : j < k := (by omega); have a3 : k < l.length := (by omega); simp [prvsL, hv, hp, a1, a2, a3])
      have t0 : decide (i < 0) = false := by first | (simp; done) | (simp; omega)
      have t1 : decide (j ≤ i) = false := by first | (simp; done) | (simp; omega)
      have t2 : decide (k ≤ j) = false := by first | (simp; done) | (simp; omega)
      have t3 : decide ((l.length : Int) ≤ k) = false := by first | (simp; done) | (simp; omega)
      obtain ⟨h1, h2⟩ := vld_len hp
      have HP := Lib.hid (fun W (h : Below w.heap.size w W) => p_proves a b d A l c i j k W (lb_of (vld_in hv)) (vld_sp hp) (HR.out.on h) h2 (by omega) (by omega) (by omega))
      generalize prvB (a, b, d) l (i, j, k) = B at *
      go_enter Try.func53, Try.ntmps53
      go_wp2_with (first
        | ((go_at_call 23; ((with_reducible refine (calls_bool hv (p_validLine a b d _)).mono ?_); rintro e w1 ⟨rfl, hb1⟩; obtain ⟨hc1, hf1⟩ := bcell hb1; have hz1 := hb1.size; (try simp [sz_drew, sz_drewN] at hz1); (try simp only [sz_drew, sz_drewN] at hc1 hf1); have z1_0 : w.heap.size < w1.heap.size := (by omega); have z1_1 : w.heap.size + 1 < w1.heap.size := (by omega))); have B1 : Below w.heap.size w w1 := (by (repeat' (first | assumption | exact below_refl _ | refine bl_alloc ?_ _ | refine Below.setCell ?_ ?_ _ | refine below_draw ?_ | refine below_drewN ?_ _ | refine below_tr ?_ (by assumption))) <;> (first | omega | (simp; done) | (simp; omega))))
        | ((go_at_call 30; ((with_reducible refine (calls_bool hp (HV.out _ B1)).mono ?_); rintro e w2 ⟨rfl, hb2⟩; obtain ⟨hc2, hf2⟩ := bcell hb2; have hz2 := hb2.size; (try simp [sz_drew, sz_drewN] at hz2); (try simp only [sz_drew, sz_drewN] at hc2 hf2); have z2_0 : w.heap.size < w2.heap.size := (by omega); have z2_1 : w.heap.size + 1 < w2.heap.size := (by omega))); have B2 : Below w.heap.size w w2 := (by (repeat' (first | assumption | exact below_refl _ | refine bl_alloc ?_ _ | refine Below.setCell ?_ ?_ _ | refine below_draw ?_ | refine below_drewN ?_ _ | refine below_tr ?_ (by assumption))) <;> (first | omega | (simp; done) | (simp; omega))))
        | (go_at_call 86; ((with_reducible refine (HP.out _ B2).mono ?_); rintro e w3 ⟨rfl, hb3⟩; obtain ⟨hc3, hf3⟩ := bcell hb3; have hz3 := hb3.size; (try simp [sz_drew, sz_drewN] at hz3); (try simp only [sz_drew, sz_drewN] at hc3 hf3); have z3_0 : w.heap.size < w3.heap.size := (by omega); have z3_1 : w.heap.size + 1 < w3.heap.size := (by omega))))
      go_ret
      exact ret_b HB.out.symm (by (repeat' (first | assumption | exact below_refl _ | refine bl_alloc ?_ _ | refine Below.setCell ?_ ?_ _ | refine below_draw ?_ | refine below_drewN ?_ _ | refine below_tr ?_ (by assumption))) <;> (first | omega | (simp; done) | (simp; omega)))

set_option maxHeartbeats 2000000 in
set_option maxRecDepth 20000 in
theorem r_Proves (a b d : Int) (A : Option Addr) (l : List Pt) (c : Nat) (i j k : Int) (w : World) (hR : Rd Pt.cs 2 w A l) (hn : l.length ≤ 100000) (hi : I64 i) (hj : I64 j) (hk : I64 k) :
    Calls Try.prog 54 #[lineV a b d, .slice A l.length c, .agg #[.int .i64 i, .int .i64 j, .int .i64 k]] w fun e w' => e = .returned (.bool (prvsL (a, b, d) l i j k)) ∧ Below w.heap.size w w' := by
  have HV := Lib.hid (fun W (h : Below w.heap.size w W) => r_validPoints A l c W hn (hR.on h))
  have HR := Lib.hid hR
  obtain ⟨i0, i1⟩ := hi
  obtain ⟨j0, j1⟩ := hj
  obtain ⟨k0, k1⟩ := hk
  clear hR
  cases hv : vldL a b d
  · have HB := Lib.hid (show prvsL (a, b, d) l i j k = false by simp [prvsL, hv])
    go_enter Try.func54, Try.ntmps54
    go_wp2_with (go_at_call 24; ((with_reducible refine (calls_bool hv (r_validLine a b d _)).mono ?_); rintro e w1 ⟨rfl, hb1⟩; obtain ⟨hc1, hf1⟩ := bcell hb1; have hz1 := hb1.size; (try simp [sz_drew, sz_drewN] at hz1); (try simp only [sz_drew, sz_drewN] at hc1 hf1); have z1_0 : w.heap.size < w1.heap.size := (by omega); have z1_1 : w.heap.size + 1 < w1.heap.size := (by omega)))
    go_ret
    exact ret_b HB.out.symm (by (repeat' (first | assumption | exact below_refl _ | refine bl_alloc ?_ _ | refine Below.setCell ?_ ?_ _ | refine below_draw ?_ | refine below_drewN ?_ _ | refine below_tr ?_ (by assumption))) <;> (first | omega | (simp; done) | (simp; omega)))
  · cases hp : vldP l
    · have HB := Lib.hid (show prvsL (a, b, d) l i j k = false by simp [prvsL, hp])
      have hd : ¬ d = 0 := by have := vld_pos hv; omega
      go_enter Try.func54, Try.ntmps54
      go_wp2_with (first
        | ((go_at_call 24; ((with_reducible refine (calls_bool hv (r_validLine a b d _)).mono ?_); rintro e w1 ⟨rfl, hb1⟩; obtain ⟨hc1, hf1⟩ := bcell hb1; have hz1 := hb1.size; (try simp [sz_drew, sz_drewN] at hz1); (try simp only [sz_drew, sz_drewN] at hc1 hf1); have z1_0 : w.heap.size < w1.heap.size := (by omega); have z1_1 : w.heap.size + 1 < w1.heap.size := (by omega))); have B1 : Below w.heap.size w w1 := (by (repeat' (first | assumption | exact below_refl _ | refine bl_alloc ?_ _ | refine Below.setCell ?_ ?_ _ | refine below_draw ?_ | refine below_drewN ?_ _ | refine below_tr ?_ (by assumption))) <;> (first | omega | (simp; done) | (simp; omega))))
        | (go_at_call 31; ((with_reducible refine (calls_bool hp (HV.out _ B1)).mono ?_); rintro e w2 ⟨rfl, hb2⟩; obtain ⟨hc2, hf2⟩ := bcell hb2; have hz2 := hb2.size; (try simp [sz_drew, sz_drewN] at hz2); (try simp only [sz_drew, sz_drewN] at hc2 hf2); have z2_0 : w.heap.size < w2.heap.size := (by omega); have z2_1 : w.heap.size + 1 < w2.heap.size := (by omega))))
      go_ret
      exact ret_b HB.out.symm (by (repeat' (first | assumption | exact below_refl _ | refine bl_alloc ?_ _ | refine Below.setCell ?_ ?_ _ | refine below_draw ?_ | refine below_drewN ?_ _ | refine below_tr ?_ (by assumption))) <;> (first | omega | (simp; done) | (simp; omega)))
    · have hd : ¬ d = 0 := by have := vld_pos hv; omega
      by_cases c0 : 0 ≤ i
      rotate_left
      · have HB := Lib.hid (show prvsL (a, b, d) l i j k = false by simp [prvsL, c0])
        have t0 : decide (0 ≤ i) = false := by first | (simp; done) | (simp; omega)
        go_enter Try.func54, Try.ntmps54
        go_wp2_with (first
          | ((go_at_call 24; ((with_reducible refine (calls_bool hv (r_validLine a b d _)).mono ?_); rintro e w1 ⟨rfl, hb1⟩; obtain ⟨hc1, hf1⟩ := bcell hb1; have hz1 := hb1.size; (try simp [sz_drew, sz_drewN] at hz1); (try simp only [sz_drew, sz_drewN] at hc1 hf1); have z1_0 : w.heap.size < w1.heap.size := (by omega); have z1_1 : w.heap.size + 1 < w1.heap.size := (by omega))); have B1 : Below w.heap.size w w1 := (by (repeat' (first | assumption | exact below_refl _ | refine bl_alloc ?_ _ | refine Below.setCell ?_ ?_ _ | refine below_draw ?_ | refine below_drewN ?_ _ | refine below_tr ?_ (by assumption))) <;> (first | omega | (simp; done) | (simp; omega))))
          | (go_at_call 31; ((with_reducible refine (calls_bool hp (HV.out _ B1)).mono ?_); rintro e w2 ⟨rfl, hb2⟩; obtain ⟨hc2, hf2⟩ := bcell hb2; have hz2 := hb2.size; (try simp [sz_drew, sz_drewN] at hz2); (try simp only [sz_drew, sz_drewN] at hc2 hf2); have z2_0 : w.heap.size < w2.heap.size := (by omega); have z2_1 : w.heap.size + 1 < w2.heap.size := (by omega))))
        go_ret
        exact ret_b HB.out.symm (by (repeat' (first | assumption | exact below_refl _ | refine bl_alloc ?_ _ | refine Below.setCell ?_ ?_ _ | refine below_draw ?_ | refine below_drewN ?_ _ | refine below_tr ?_ (by assumption))) <;> (first | omega | (simp; done) | (simp; omega)))
      by_cases c1 : i < j
      rotate_left
      · have HB := Lib.hid (show prvsL (a, b, d) l i j k = false by simp [prvsL, c1])
        have t0 : decide (0 ≤ i) = true := by first | (simp; done) | (simp; omega)
        have t1 : decide (i < j) = false := by first | (simp; done) | (simp; omega)
        go_enter Try.func54, Try.ntmps54
        go_wp2_with (first
          | ((go_at_call 24; ((with_reducible refine (calls_bool hv (r_validLine a b d _)).mono ?_); rintro e w1 ⟨rfl, hb1⟩; obtain ⟨hc1, hf1⟩ := bcell hb1; have hz1 := hb1.size; (try simp [sz_drew, sz_drewN] at hz1); (try simp only [sz_drew, sz_drewN] at hc1 hf1); have z1_0 : w.heap.size < w1.heap.size := (by omega); have z1_1 : w.heap.size + 1 < w1.heap.size := (by omega))); have B1 : Below w.heap.size w w1 := (by (repeat' (first | assumption | exact below_refl _ | refine bl_alloc ?_ _ | refine Below.setCell ?_ ?_ _ | refine below_draw ?_ | refine below_drewN ?_ _ | refine below_tr ?_ (by assumption))) <;> (first | omega | (simp; done) | (simp; omega))))
          | (go_at_call 31; ((with_reducible refine (calls_bool hp (HV.out _ B1)).mono ?_); rintro e w2 ⟨rfl, hb2⟩; obtain ⟨hc2, hf2⟩ := bcell hb2; have hz2 := hb2.size; (try simp [sz_drew, sz_drewN] at hz2); (try simp only [sz_drew, sz_drewN] at hc2 hf2); have z2_0 : w.heap.size < w2.heap.size := (by omega); have z2_1 : w.heap.size + 1 < w2.heap.size := (by omega))))
        go_ret
        exact ret_b HB.out.symm (by (repeat' (first | assumption | exact below_refl _ | refine bl_alloc ?_ _ | refine Below.setCell ?_ ?_ _ | refine below_draw ?_ | refine below_drewN ?_ _ | refine below_tr ?_ (by assumption))) <;> (first | omega | (simp; done) | (simp; omega)))
      by_cases c2 : j < k
      rotate_left
      · have HB := Lib.hid (show prvsL (a, b, d) l i j k = false by simp [prvsL, c2])
        have t0 : decide (0 ≤ i) = true := by first | (simp; done) | (simp; omega)
        have t1 : decide (i < j) = true := by first | (simp; done) | (simp; omega)
        have t2 : decide (j < k) = false := by first | (simp; done) | (simp; omega)
        go_enter Try.func54, Try.ntmps54
        go_wp2_with (first
          | ((go_at_call 24; ((with_reducible refine (calls_bool hv (r_validLine a b d _)).mono ?_); rintro e w1 ⟨rfl, hb1⟩; obtain ⟨hc1, hf1⟩ := bcell hb1; have hz1 := hb1.size; (try simp [sz_drew, sz_drewN] at hz1); (try simp only [sz_drew, sz_drewN] at hc1 hf1); have z1_0 : w.heap.size < w1.heap.size := (by omega); have z1_1 : w.heap.size + 1 < w1.heap.size := (by omega))); have B1 : Below w.heap.size w w1 := (by (repeat' (first | assumption | exact below_refl _ | refine bl_alloc ?_ _ | refine Below.setCell ?_ ?_ _ | refine below_draw ?_ | refine below_drewN ?_ _ | refine below_tr ?_ (by assumption))) <;> (first | omega | (simp; done) | (simp; omega))))
          | (go_at_call 31; ((with_reducible refine (calls_bool hp (HV.out _ B1)).mono ?_); rintro e w2 ⟨rfl, hb2⟩; obtain ⟨hc2, hf2⟩ := bcell hb2; have hz2 := hb2.size; (try simp [sz_drew, sz_drewN] at hz2); (try simp only [sz_drew, sz_drewN] at hc2 hf2); have z2_0 : w.heap.size < w2.heap.size := (by omega); have z2_1 : w.heap.size + 1 < w2.heap.size := (by omega))))
        go_ret
        exact ret_b HB.out.symm (by (repeat' (first | assumption | exact below_refl _ | refine bl_alloc ?_ _ | refine Below.setCell ?_ ?_ _ | refine below_draw ?_ | refine below_drewN ?_ _ | refine below_tr ?_ (by assumption))) <;> (first | omega | (simp; done) | (simp; omega)))
      by_cases c3 : k < (l.length : Int)
      rotate_left
      · have HB := Lib.hid (show prvsL (a, b, d) l i j k = false by simp [prvsL, c3])
        have t0 : decide (0 ≤ i) = true := by first | (simp; done) | (simp; omega)
        have t1 : decide (i < j) = true := by first | (simp; done) | (simp; omega)
        have t2 : decide (j < k) = true := by first | (simp; done) | (simp; omega)
        have t3 : decide (k < (l.length : Int)) = false := by first | (simp; done) | (simp; omega)
        go_enter Try.func54, Try.ntmps54
        go_wp2_with (first
          | ((go_at_call 24; ((with_reducible refine (calls_bool hv (r_validLine a b d _)).mono ?_); rintro e w1 ⟨rfl, hb1⟩; obtain ⟨hc1, hf1⟩ := bcell hb1; have hz1 := hb1.size; (try simp [sz_drew, sz_drewN] at hz1); (try simp only [sz_drew, sz_drewN] at hc1 hf1); have z1_0 : w.heap.size < w1.heap.size := (by omega); have z1_1 : w.heap.size + 1 < w1.heap.size := (by omega))); have B1 : Below w.heap.size w w1 := (by (repeat' (first | assumption | exact below_refl _ | refine bl_alloc ?_ _ | refine Below.setCell ?_ ?_ _ | refine below_draw ?_ | refine below_drewN ?_ _ | refine below_tr ?_ (by assumption))) <;> (first | omega | (simp; done) | (simp; omega))))
          | (go_at_call 31; ((with_reducible refine (calls_bool hp (HV.out _ B1)).mono ?_); rintro e w2 ⟨rfl, hb2⟩; obtain ⟨hc2, hf2⟩ := bcell hb2; have hz2 := hb2.size; (try simp [sz_drew, sz_drewN] at hz2); (try simp only [sz_drew, sz_drewN] at hc2 hf2); have z2_0 : w.heap.size < w2.heap.size := (by omega); have z2_1 : w.heap.size + 1 < w2.heap.size := (by omega))))
        go_ret
        exact ret_b HB.out.symm (by (repeat' (first | assumption | exact below_refl _ | refine bl_alloc ?_ _ | refine Below.setCell ?_ ?_ _ | refine below_draw ?_ | refine below_drewN ?_ _ | refine below_tr ?_ (by assumption))) <;> (first | omega | (simp; done) | (simp; omega)))
      obtain ⟨i, rfl⟩ : ∃ m : Nat, i = m := ⟨i.toNat, by omega⟩
      obtain ⟨j, rfl⟩ : ∃ m : Nat, j = m := ⟨j.toNat, by omega⟩
      obtain ⟨k, rfl⟩ : ∃ m : Nat, k = m := ⟨k.toNat, by omega⟩
      have HB := Lib.hid (show prvsL (a, b, d) l i j k = prvB (a, b, d) l (i, j, k) by have a1 : i < j := (by omega); have a2 : j < k := (by omega); have a3 : k < l.length := (by omega); simp [prvsL, hv, hp, a1, a2, a3])
      have t0 : decide (0 ≤ i) = true := by first | (simp; done) | (simp; omega)
      have t1 : decide (i < j) = true := by first | (simp; done) | (simp; omega)
      have t2 : decide (j < k) = true := by first | (simp; done) | (simp; omega)
      have t3 : decide (k < (l.length : Int)) = true := by first | (simp; done) | (simp; omega)
      obtain ⟨h1, h2⟩ := vld_len hp
      have HP := Lib.hid (fun W (h : Below w.heap.size w W) => r_proves a b d A l c i j k W (lb_of (vld_in hv)) (vld_sp hp) (HR.out.on h) h2 (by omega) (by omega) (by omega))
      generalize prvB (a, b, d) l (i, j, k) = B at *
      go_enter Try.func54, Try.ntmps54
      go_wp2_with (first
        | ((go_at_call 24; ((with_reducible refine (calls_bool hv (r_validLine a b d _)).mono ?_); rintro e w1 ⟨rfl, hb1⟩; obtain ⟨hc1, hf1⟩ := bcell hb1; have hz1 := hb1.size; (try simp [sz_drew, sz_drewN] at hz1); (try simp only [sz_drew, sz_drewN] at hc1 hf1); have z1_0 : w.heap.size < w1.heap.size := (by omega); have z1_1 : w.heap.size + 1 < w1.heap.size := (by omega))); have B1 : Below w.heap.size w w1 := (by (repeat' (first | assumption | exact below_refl _ | refine bl_alloc ?_ _ | refine Below.setCell ?_ ?_ _ | refine below_draw ?_ | refine below_drewN ?_ _ | refine below_tr ?_ (by assumption))) <;> (first | omega | (simp; done) | (simp; omega))))
        | ((go_at_call 31; ((with_reducible refine (calls_bool hp (HV.out _ B1)).mono ?_); rintro e w2 ⟨rfl, hb2⟩; obtain ⟨hc2, hf2⟩ := bcell hb2; have hz2 := hb2.size; (try simp [sz_drew, sz_drewN] at hz2); (try simp only [sz_drew, sz_drewN] at hc2 hf2); have z2_0 : w.heap.size < w2.heap.size := (by omega); have z2_1 : w.heap.size + 1 < w2.heap.size := (by omega))); have B2 : Below w.heap.size w w2 := (by (repeat' (first | assumption | exact below_refl _ | refine bl_alloc ?_ _ | refine Below.setCell ?_ ?_ _ | refine below_draw ?_ | refine below_drewN ?_ _ | refine below_tr ?_ (by assumption))) <;> (first | omega | (simp; done) | (simp; omega))))
        | (go_at_call 87; ((with_reducible refine (HP.out _ B2).mono ?_); rintro e w3 ⟨rfl, hb3⟩; obtain ⟨hc3, hf3⟩ := bcell hb3; have hz3 := hb3.size; (try simp [sz_drew, sz_drewN] at hz3); (try simp only [sz_drew, sz_drewN] at hc3 hf3); have z3_0 : w.heap.size < w3.heap.size := (by omega); have z3_1 : w.heap.size + 1 < w3.heap.size := (by omega))))
      go_ret
      exact ret_b HB.out.symm (by (repeat' (first | assumption | exact below_refl _ | refine bl_alloc ?_ _ | refine Below.setCell ?_ ?_ _ | refine below_draw ?_ | refine below_drewN ?_ _ | refine below_tr ?_ (by assumption))) <;> (first | omega | (simp; done) | (simp; omega)))
end Go.Proofs.Ytohbejdfaecghaa
