/- Lean: Nearest and Bend by the reference; LeanNearest walked. -/
import Derived.Test.YtohbejdfaecghaaLna
import Derived.Test.YtohbejdfaecghaaLnb
import Derived.Test.YtohbejdfaecghaaLpn
import Derived.Test.YtohbejdfaecghaaLva
set_option linter.unusedSimpArgs false
set_option linter.unusedVariables false
namespace Go.Proofs.Ytohbejdfaecghaa
open Go.RowKit

set_option maxHeartbeats 1000000 in
set_option maxRecDepth 20000 in
theorem r_nearest_one (A : Option Addr) (l : List Pt) (c : Nat) (w : World) (h1 : l.length = 1) (hR : Rd Pt.cs 2 w A l) :
    Calls Try.prog 80 #[.slice A l.length c] w fun e w' => e = .returned (lnV (nearP l)) ∧ Below w.heap.size w w' := by
  obtain ⟨p, ab, off, hx, rfl, hab, c0, c1⟩ := rdP hR (show 0 < l.length by omega)
  have hn : nearP l = (p.x, 0, 1) := by rw [(near_one h1).1, ptAt_of hx]
  rw [hn]
  have HL := Lib.hid h1
  have t1 : ((l.length : Int) == 1) = true := by simp; omega
  have t2 : (0 : Int) < (l.length : Int) := by omega
  have t3 : 0 < l.length := by omega
  have nb : ab ≠ w.heap.size := by omega
  rw [Nat.zero_mul, Nat.add_zero] at c0 c1
  clear hx h1 hR hn
  go_enter Try.func80, Try.ntmps80
  go_wp2
  (refine bodyPost_ret (v := lineV p.x 0 1) (by simp [results, Try.results80, go_sem, *]) rfl ⟨rfl, ?_⟩; (repeat' (first | assumption | exact below_refl _ | refine bl_alloc ?_ _ | refine Below.setCell ?_ ?_ _ | refine below_draw ?_ | refine below_drewN ?_ _ | refine below_tr ?_ (by assumption))) <;> (first | omega | (simp; done) | (simp; omega)))
set_option maxHeartbeats 1000000 in
set_option maxRecDepth 20000 in
theorem r_nearest_many (A : Option Addr) (l : List Pt) (c : Nat) (w : World) (hv : vldP l = true) (h2 : 2 ≤ l.length) (hR : Rd Pt.cs 2 w A l) :
    Calls Try.prog 80 #[.slice A l.length c] w fun e w' => e = .returned (lnV (nearP l)) ∧ Below w.heap.size w w' := by
  have HN := fun W (h : Below w.heap.size w W) => r_narrowest A l c W hv (hR.on h)
  have hnar := nar_of (vld_lt hv) h2
  obtain ⟨hm, _⟩ := nar_near (vld_lt hv) h2 hnar
  obtain ⟨b0, b1, d0, d1, l0, l1, k0, k1⟩ := narS_b (vld_sp hv)
  have hp := hnar.pos
  have HM := fun W => r_Make ((narS l).2.2.1 + (narS l).2.2.2) (2 * (narS l).1) (2 * (narS l).2.1) W
  rw [make_yes (by simp only [inB, Bool.and_eq_true, wn_iff]; omega), hm] at HM
  have hne : nearP l = ((nearP l).1, (nearP l).2.1, (nearP l).2.2) := rfl
  generalize nearP l = N at *
  obtain ⟨x0, x1, x2⟩ := N
  generalize narS l = S at *
  obtain ⟨b, d, lo, hi⟩ := S
  dsimp only at HN HM b0 b1 d0 d1 l0 l1 k0 k1 hp
  have HN := Lib.hid HN
  have HM := Lib.hid HM
  have t1 : ((l.length : Int) == 1) = false := by simp; omega
  clear hR hnar hm hne
  go_enter Try.func80, Try.ntmps80
  go_wp2_with (first
    | ((go_at_call 81; ((with_reducible refine (HN.out _ (below_alloc _ _)).mono ?_); rintro e w1 ⟨rfl, hb1⟩; obtain ⟨hc1, hf1⟩ := bcell hb1; have hz1 := hb1.size; (try simp [sz_drew, sz_drewN] at hz1); (try simp only [sz_drew, sz_drewN] at hc1 hf1); have z1_0 : w.heap.size < w1.heap.size := (by omega))); have B1 : Below w.heap.size w w1 := (by (repeat' (first | assumption | exact below_refl _ | refine bl_alloc ?_ _ | refine Below.setCell ?_ ?_ _ | refine below_draw ?_ | refine below_drewN ?_ _ | refine below_tr ?_ (by assumption))) <;> (first | omega | (simp; done) | (simp; omega))))
    | (go_at_call 22; ((with_reducible refine (HM.out _).mono ?_); rintro e w2 ⟨rfl, hb2⟩; obtain ⟨hc2, hf2⟩ := bcell hb2; have hz2 := hb2.size; (try simp [sz_drew, sz_drewN] at hz2); (try simp only [sz_drew, sz_drewN] at hc2 hf2); have z2_0 : w.heap.size < w2.heap.size := (by omega); have y2_0 : w1.heap.size < w2.heap.size := (by omega))))
  have q0 : w2.cell? ⟨w.heap.size, 0, none⟩ = some (.int .i64 0) := by go_simp
  have q1 : w2.cell? ⟨w.heap.size, 1, none⟩ = some (.int .i64 0) := by go_simp
  have q2 : w2.cell? ⟨w.heap.size, 2, none⟩ = some (.int .i64 0) := by go_simp
  have q3 : w2.frozen? ⟨w.heap.size, 0, none⟩ = false := by go_simp
  have q4 : w2.frozen? ⟨w.heap.size, 1, none⟩ = false := by go_simp
  have q5 : w2.frozen? ⟨w.heap.size, 2, none⟩ = false := by go_simp
  (refine bodyPost_ret (v := lineV x0 x1 x2) (by simp [results, Try.results80, go_sem, *]) rfl ⟨rfl, ?_⟩; (repeat' (first | assumption | exact below_refl _ | refine bl_alloc ?_ _ | refine Below.setCell ?_ ?_ _ | refine below_draw ?_ | refine below_drewN ?_ _ | refine below_tr ?_ (by assumption))) <;> (first | omega | (simp; done) | (simp; omega)))
theorem r_nearest (A : Option Addr) (l : List Pt) (c : Nat) (w : World) (hv : vldP l = true) (hR : Rd Pt.cs 2 w A l) :
    Calls Try.prog 80 #[.slice A l.length c] w fun e w' => e = .returned (lnV (nearP l)) ∧ Below w.heap.size w w' := by
  obtain ⟨h1, h2⟩ := vld_len hv
  rcases Nat.eq_or_lt_of_le h1 with h | h
  · exact r_nearest_one A l c w h.symm hR
  · exact r_nearest_many A l c w hv h hR
set_option maxHeartbeats 400000 in
set_option maxRecDepth 20000 in
theorem r_Nearest (A : Option Addr) (l : List Pt) (c : Nat) (w : World) (hn : l.length ≤ 100000) (hR : Rd Pt.cs 2 w A l) :
    Calls Try.prog 38 #[.slice A l.length c] w fun e w' => e = .returned (.tuple #[lnV (nearL l).1, .int .i64 (nearL l).2]) ∧ Below w.heap.size w w' := by
  have HV := Lib.hid (fun W (h : Below w.heap.size w W) => r_validPoints A l c W hn (hR.on h))
  cases hv : vldP l
  · rw [show nearL l = ((0, 0, 0), 1) by simp [nearL, hv]]
    go_enter Try.func38, Try.ntmps38
    go_wp2_with (go_at_call 31; ((with_reducible refine (calls_bool hv (HV.out _ (below_alloc _ _))).mono ?_); rintro e w1 ⟨rfl, hb1⟩; obtain ⟨hc1, hf1⟩ := bcell hb1; have hz1 := hb1.size; (try simp [sz_drew, sz_drewN] at hz1); (try simp only [sz_drew, sz_drewN] at hc1 hf1); have z1_0 : w.heap.size < w1.heap.size := (by omega)))
    (refine bodyPost_ret (v := .tuple #[lineV 0 0 0, .int .i64 1]) (by simp [results, Try.results38, go_sem, *]) rfl ⟨rfl, ?_⟩; (repeat' (first | assumption | exact below_refl _ | refine bl_alloc ?_ _ | refine Below.setCell ?_ ?_ _ | refine below_draw ?_ | refine below_drewN ?_ _ | refine below_tr ?_ (by assumption))) <;> (first | omega | (simp; done) | (simp; omega)))
  · rw [show nearL l = (nearP l, 0) by simp [nearL, hv]]
    have HN := Lib.hid (fun W (h : Below w.heap.size w W) => r_nearest A l c W hv (hR.on h))
    generalize nearP l = N at *
    obtain ⟨x0, x1, x2⟩ := N
    clear hR
    go_enter Try.func38, Try.ntmps38
    go_wp2_with (first
      | ((go_at_call 31; ((with_reducible refine (calls_bool hv (HV.out _ (below_alloc _ _))).mono ?_); rintro e w1 ⟨rfl, hb1⟩; obtain ⟨hc1, hf1⟩ := bcell hb1; have hz1 := hb1.size; (try simp [sz_drew, sz_drewN] at hz1); (try simp only [sz_drew, sz_drewN] at hc1 hf1); have z1_0 : w.heap.size < w1.heap.size := (by omega))); have B1 : Below w.heap.size w w1 := (by (repeat' (first | assumption | exact below_refl _ | refine bl_alloc ?_ _ | refine Below.setCell ?_ ?_ _ | refine below_draw ?_ | refine below_drewN ?_ _ | refine below_tr ?_ (by assumption))) <;> (first | omega | (simp; done) | (simp; omega))))
      | (go_at_call 80; ((with_reducible refine (HN.out _ B1).mono ?_); rintro e w2 ⟨rfl, hb2⟩; obtain ⟨hc2, hf2⟩ := bcell hb2; have hz2 := hb2.size; (try simp [sz_drew, sz_drewN] at hz2); (try simp only [sz_drew, sz_drewN] at hc2 hf2); have z2_0 : w.heap.size < w2.heap.size := (by omega))))
    (refine bodyPost_ret (v := .tuple #[lineV x0 x1 x2, .int .i64 0]) (by simp [results, Try.results38, go_sem, *]) rfl ⟨rfl, ?_⟩; (repeat' (first | assumption | exact below_refl _ | refine bl_alloc ?_ _ | refine Below.setCell ?_ ?_ _ | refine below_draw ?_ | refine below_drewN ?_ _ | refine below_tr ?_ (by assumption))) <;> (first | omega | (simp; done) | (simp; omega)))
set_option maxHeartbeats 1000000 in
set_option maxRecDepth 20000 in
theorem r_Bend (A : Option Addr) (l : List Pt) (c : Nat) (w : World) (hn : l.length ≤ 100000) (hR : Rd Pt.cs 2 w A l) :
    Calls Try.prog 40 #[.slice A l.length c] w fun e w' => e = .returned (.tuple #[frV (bendL l).1, .int .i64 (bendL l).2]) ∧ Below w.heap.size w w' := by
  have HV := Lib.hid (fun W (h : Below w.heap.size w W) => r_validPoints A l c W hn (hR.on h))
  cases hv : vldP l
  · rw [show bendL l = ((0, 0), 1) by simp [bendL, hv]]
    clear hR
    go_enter Try.func40, Try.ntmps40
    go_wp2_with (go_at_call 31; ((with_reducible refine (calls_bool hv (HV.out _ (below_alloc _ _))).mono ?_); rintro e w1 ⟨rfl, hb1⟩; obtain ⟨hc1, hf1⟩ := bcell hb1; have hz1 := hb1.size; (try simp [sz_drew, sz_drewN] at hz1); (try simp only [sz_drew, sz_drewN] at hc1 hf1); have z1_0 : w.heap.size < w1.heap.size := (by omega)))
    (refine bodyPost_ret (v := .tuple #[frV (0, 0), .int .i64 1]) (by simp [results, Try.results40, go_sem, *]) rfl ⟨rfl, ?_⟩; (repeat' (first | assumption | exact below_refl _ | refine bl_alloc ?_ _ | refine Below.setCell ?_ ?_ _ | refine below_draw ?_ | refine below_drewN ?_ _ | refine below_tr ?_ (by assumption))) <;> (first | omega | (simp; done) | (simp; omega)))
  · obtain ⟨h1, h2⟩ := vld_len hv
    rcases Nat.eq_or_lt_of_le h1 with h | h
    · rw [bend_one hv h.symm]
      have t1 : ((l.length : Int) == 1) = true := by simp; omega
      have H := Lib.hid h
      clear h hR h1
      go_enter Try.func40, Try.ntmps40
      go_wp2_with (go_at_call 31; ((with_reducible refine (calls_bool hv (HV.out _ (below_alloc _ _))).mono ?_); rintro e w1 ⟨rfl, hb1⟩; obtain ⟨hc1, hf1⟩ := bcell hb1; have hz1 := hb1.size; (try simp [sz_drew, sz_drewN] at hz1); (try simp only [sz_drew, sz_drewN] at hc1 hf1); have z1_0 : w.heap.size < w1.heap.size := (by omega)))
      (refine bodyPost_ret (v := .tuple #[frV (0, 1), .int .i64 0]) (by simp [results, Try.results40, go_sem, *]) rfl ⟨rfl, ?_⟩; (repeat' (first | assumption | exact below_refl _ | refine bl_alloc ?_ _ | refine Below.setCell ?_ ?_ _ | refine below_draw ?_ | refine below_drewN ?_ _ | refine below_tr ?_ (by assumption))) <;> (first | omega | (simp; done) | (simp; omega)))
    · rw [bend_strip hv h]
      have t1 : ((l.length : Int) == 1) = false := by simp; omega
      have HN := fun W (h : Below w.heap.size w W) => r_narrowest A l c W hv (hR.on h)
      have hnar := nar_of (vld_lt hv) h
      obtain ⟨b0, b1, d0, d1, l0, l1, k0, k1⟩ := narS_b (vld_sp hv)
      have hp := hnar.pos
      clear hR hnar
      generalize narS l = S at *
      obtain ⟨b, d, lo, hi⟩ := S
      dsimp only at HN b0 b1 d0 d1 l0 l1 k0 k1 hp ⊢
      have HL := fun W => r_lowest (hi - lo) (2 * d) W ⟨by omega, by omega⟩ ⟨by omega, by omega⟩ (by omega)
      generalize gN (hi - lo) (2 * d) = n at *
      generalize gD (hi - lo) (2 * d) = m at *
      have HN := Lib.hid HN
      have HL := Lib.hid HL
      go_enter Try.func40, Try.ntmps40
      go_wp2_with (first
        | ((go_at_call 31; ((with_reducible refine (calls_bool hv (HV.out _ (below_alloc _ _))).mono ?_); rintro e w1 ⟨rfl, hb1⟩; obtain ⟨hc1, hf1⟩ := bcell hb1; have hz1 := hb1.size; (try simp [sz_drew, sz_drewN] at hz1); (try simp only [sz_drew, sz_drewN] at hc1 hf1); have z1_0 : w.heap.size < w1.heap.size := (by omega))); have B1 : Below w.heap.size w w1 := (by (repeat' (first | assumption | exact below_refl _ | refine bl_alloc ?_ _ | refine Below.setCell ?_ ?_ _ | refine below_draw ?_ | refine below_drewN ?_ _ | refine below_tr ?_ (by assumption))) <;> (first | omega | (simp; done) | (simp; omega))))
        | (go_at_call 81; ((with_reducible refine (HN.out _ B1).mono ?_); rintro e w2 ⟨rfl, hb2⟩; obtain ⟨hc2, hf2⟩ := bcell hb2; have hz2 := hb2.size; (try simp [sz_drew, sz_drewN] at hz2); (try simp only [sz_drew, sz_drewN] at hc2 hf2); have z2_0 : w.heap.size < w2.heap.size := (by omega)))
        | (go_at_call 71; ((with_reducible refine (HL.out _).mono ?_); rintro e w3 ⟨rfl, hb3⟩; obtain ⟨hc3, hf3⟩ := bcell hb3; have hz3 := hb3.size; (try simp [sz_drew, sz_drewN] at hz3); (try simp only [sz_drew, sz_drewN] at hc3 hf3); have z3_0 : w.heap.size < w3.heap.size := (by omega); have y3_0 : w2.heap.size < w3.heap.size := (by omega))))
      have q0 : w3.cell? ⟨w.heap.size, 0, none⟩ = some (.int .i64 0) := by go_simp
      have q1 : w3.cell? ⟨w.heap.size, 1, none⟩ = some (.int .i64 0) := by go_simp
      have q2 : w3.frozen? ⟨w.heap.size, 0, none⟩ = false := by go_simp
      have q3 : w3.frozen? ⟨w.heap.size, 1, none⟩ = false := by go_simp
      (refine bodyPost_ret (v := .tuple #[frV (n, m), .int .i64 0]) (by simp [results, Try.results40, go_sem, *]) rfl ⟨rfl, ?_⟩; (repeat' (first | assumption | exact below_refl _ | refine bl_alloc ?_ _ | refine Below.setCell ?_ ?_ _ | refine below_draw ?_ | refine below_drewN ?_ _ | refine below_tr ?_ (by assumption))) <;> (first | omega | (simp; done) | (simp; omega)))

set_option maxHeartbeats 2000000 in
set_option maxRecDepth 20000 in
theorem l_nearest (A : Option Addr) (l : List Pt) (c : Nat) (w : World) (hn : l.length ≤ maxLen) (hR : Rd Pt.cs 2 w A l) :
    Calls Try.prog 9 #[.slice A l.length c] w fun e w' => e = .returned (.bool true) ∧ Below w.heap.size w w' := by
  unfold maxLen at hn
  by_cases hlen : 100 < l.length
  · go_enter Try.func9, Try.ntmps9
    go_wp2_with (go_at_call 17; ((with_reducible refine (p_awake _).mono ?_); rintro e w1 ⟨rfl, hb1⟩; obtain ⟨hc1, hf1⟩ := bcell hb1; have hz1 := hb1.size; (try simp [sz_drew, sz_drewN] at hz1); (try simp only [sz_drew, sz_drewN] at hc1 hf1)))
    go_ret
    exact ⟨rfl, by (repeat' (first | assumption | exact below_refl _ | refine bl_alloc ?_ _ | refine Below.setCell ?_ ?_ _ | refine below_draw ?_ | refine below_drewN ?_ _ | refine below_tr ?_ (by assumption))) <;> (first | omega | (simp; done) | (simp; omega))⟩
  · have HR := Lib.hid hR
    have P1 := fun W (h : Below w.heap.size w W) => p_Nearest A l c W (by omega) (HR.out.on h)
    have P2 := fun W (h : Below w.heap.size w W) => r_Nearest A l c W (by omega) (HR.out.on h)
    have P3 := fun W (h : Below w.heap.size w W) => p_Bend A l c W (by omega) (HR.out.on h)
    have P4 := fun W (h : Below w.heap.size w W) => r_Bend A l c W (by omega) (HR.out.on h)
    generalize nearL l = N at *
    generalize bendL l = B at *
    obtain ⟨⟨x0, x1, x2⟩, ne⟩ := N
    obtain ⟨⟨n, d⟩, be⟩ := B
    dsimp only at P1 P2 P3 P4
    have P1 := Lib.hid P1
    have P2 := Lib.hid P2
    have P3 := Lib.hid P3
    have P4 := Lib.hid P4
    clear hR
    go_enter Try.func9, Try.ntmps9
    go_wp2_with (first
      | ((go_at_call 37; ((with_reducible refine (P1.out _ (below_refl _)).mono ?_); rintro e w1 ⟨rfl, hb1⟩; obtain ⟨hc1, hf1⟩ := bcell hb1; have hz1 := hb1.size; (try simp [sz_drew, sz_drewN] at hz1); (try simp only [sz_drew, sz_drewN] at hc1 hf1))); have B1 : Below w.heap.size w w1 := (by (repeat' (first | assumption | exact below_refl _ | refine bl_alloc ?_ _ | refine Below.setCell ?_ ?_ _ | refine below_draw ?_ | refine below_drewN ?_ _ | refine below_tr ?_ (by assumption))) <;> (first | omega | (simp; done) | (simp; omega))))
      | ((go_at_call 38; ((with_reducible refine (P2.out _ (bl_alloc B1 _)).mono ?_); rintro e w2 ⟨rfl, hb2⟩; obtain ⟨hc2, hf2⟩ := bcell hb2; have hz2 := hb2.size; (try simp [sz_drew, sz_drewN] at hz2); (try simp only [sz_drew, sz_drewN] at hc2 hf2); have y2_0 : w1.heap.size < w2.heap.size := (by omega))); have B2 : Below w.heap.size w w2 := (by (repeat' (first | assumption | exact below_refl _ | refine bl_alloc ?_ _ | refine Below.setCell ?_ ?_ _ | refine below_draw ?_ | refine below_drewN ?_ _ | refine below_tr ?_ (by assumption))) <;> (first | omega | (simp; done) | (simp; omega))))
      | ((go_at_call 39; ((with_reducible refine (P3.out _ (bl_alloc B2 _)).mono ?_); rintro e w3 ⟨rfl, hb3⟩; obtain ⟨hc3, hf3⟩ := bcell hb3; have hz3 := hb3.size; (try simp [sz_drew, sz_drewN] at hz3); (try simp only [sz_drew, sz_drewN] at hc3 hf3); have y3_0 : w1.heap.size < w3.heap.size := (by omega); have y3_1 : w2.heap.size < w3.heap.size := (by omega))); have B3 : Below w.heap.size w w3 := (by (repeat' (first | assumption | exact below_refl _ | refine bl_alloc ?_ _ | refine Below.setCell ?_ ?_ _ | refine below_draw ?_ | refine below_drewN ?_ _ | refine below_tr ?_ (by assumption))) <;> (first | omega | (simp; done) | (simp; omega))))
      | ((go_at_call 40; ((with_reducible refine (P4.out _ (bl_alloc B3 _)).mono ?_); rintro e w4 ⟨rfl, hb4⟩; obtain ⟨hc4, hf4⟩ := bcell hb4; have hz4 := hb4.size; (try simp [sz_drew, sz_drewN] at hz4); (try simp only [sz_drew, sz_drewN] at hc4 hf4); have y4_0 : w1.heap.size < w4.heap.size := (by omega); have y4_1 : w2.heap.size < w4.heap.size := (by omega); have y4_2 : w3.heap.size < w4.heap.size := (by omega))); have B4 : Below w.heap.size w w4 := (by (repeat' (first | assumption | exact below_refl _ | refine bl_alloc ?_ _ | refine Below.setCell ?_ ?_ _ | refine below_draw ?_ | refine below_drewN ?_ _ | refine below_tr ?_ (by assumption))) <;> (first | omega | (simp; done) | (simp; omega))))
      | (go_at_call 17; ((with_reducible refine (p_awake _).mono ?_); rintro e w5 ⟨rfl, hb5⟩; obtain ⟨hc5, hf5⟩ := bcell hb5; have hz5 := hb5.size; (try simp [sz_drew, sz_drewN] at hz5); (try simp only [sz_drew, sz_drewN] at hc5 hf5))))
    go_ret
    exact ⟨rfl, by (repeat' (first | assumption | exact below_refl _ | refine bl_alloc ?_ _ | refine Below.setCell ?_ ?_ _ | refine below_draw ?_ | refine below_drewN ?_ _ | refine below_tr ?_ (by assumption))) <;> (first | omega | (simp; done) | (simp; omega))⟩
theorem l_nearestF (A : Option Addr) (l : List Pt) (c : Nat) (w : World) (hn : l.length ≤ maxLen) (hR : Rd Pt.cs 2 w A l) (_ : ∀ p ∈ l, I64 p.h ∧ I64 p.x) :
    Calls Try.prog 9 #[.slice A l.length c] w fun e w' => e = .returned (.bool true) ∧ Below w.heap.size w w' := l_nearest A l c w hn hR
end Go.Proofs.Ytohbejdfaecghaa
