/- Lean: Distance, Through, by both. -/
import Derived.Test.YtohbejdfaecghaaLta
import Derived.Deep.RegionHeld3
set_option linter.unusedSimpArgs false
set_option linter.unusedVariables false
namespace Go.Proofs.Ytohbejdfaecghaa
open Go.RowKit

theorem wp_world {P : Program} {id : Nat} {ops : Array Oper} {b : Bool} {Q : Exit → Act → World → Prop} {a : Act} {w : World} (h : ∀ W, W = w → (Code.region id ops b).wp P Q a W) : (Code.region id ops b).wp P Q a w := h w rfl
theorem kp_of {W w' : World} (h : Below W.heap.size W w') : (∀ b o, b < W.heap.size → w'.cell? ⟨b, o, none⟩ = W.cell? ⟨b, o, none⟩) ∧ (∀ b o, b < W.heap.size → w'.frozen? ⟨b, o, none⟩ = W.frozen? ⟨b, o, none⟩) ∧ Below W.heap.size W w' :=
  ⟨(bcell h).1, (bcell h).2, h⟩
/-- all that lies below W's end is as in W, but for block T -/
def Kx (w W : World) (T : Nat) (w' : World) : Prop :=
  (∀ b o, b < W.heap.size → b ≠ T → w'.cell? ⟨b, o, none⟩ = W.cell? ⟨b, o, none⟩) ∧ (∀ b o, b < W.heap.size → w'.frozen? ⟨b, o, none⟩ = W.frozen? ⟨b, o, none⟩) ∧ W.heap.size ≤ w'.heap.size ∧ Below w.heap.size w w'
section
variable {w W w' w'' : World} {T : Nat}
theorem kx_refl (h : Below w.heap.size w W) : Kx w W T W := ⟨fun _ _ _ _ => rfl, fun _ _ _ => rfl, Nat.le_refl _, h⟩
theorem kx_draw (h : Kx w W T w') : Kx w W T w'.drew := ⟨h.1, h.2.1, h.2.2.1, below_draw h.2.2.2⟩
theorem kx_step (h : Kx w W T w') (hb : Below w'.heap.size w' w'') : Kx w W T w'' :=
  ⟨fun b o h1 h2 => ((bcell hb).1 b o (Nat.lt_of_lt_of_le h1 h.2.2.1)).trans (h.1 b o h1 h2), fun b o h1 => ((bcell hb).2 b o (Nat.lt_of_lt_of_le h1 h.2.2.1)).trans (h.2.1 b o h1), Nat.le_trans h.2.2.1 hb.size, below_tr h.2.2.2 hb⟩
theorem kx_set {i : Nat} {v : Value} (h : Kx w W T w') (hT : w.heap.size ≤ T) : Kx w W T (w'.setCell ⟨T, i, none⟩ v) :=
  ⟨fun b o h1 h2 => by rw [World.cell?_setCell_far _ _ _ _ (show T ≠ b from fun e => h2 e.symm)]; exact h.1 b o h1 h2, fun b o h1 => by rw [World.frozen?_setCell]; exact h.2.1 b o h1, by rw [World.size_setCell]; exact h.2.2.1, h.2.2.2.setCell hT _⟩
end
/-- a block of two cells is there behind two calls -/
theorem carry4 {W w3 w4 : World} {T : Nat} {v0 v1 : Value} (hc3 : ∀ b o, b < W.heap.size → w3.cell? ⟨b, o, none⟩ = W.cell? ⟨b, o, none⟩) (hc4 : ∀ b o, b < w3.heap.size → w4.cell? ⟨b, o, none⟩ = w3.cell? ⟨b, o, none⟩)
    (hf3 : ∀ b o, b < W.heap.size → w3.frozen? ⟨b, o, none⟩ = W.frozen? ⟨b, o, none⟩) (hf4 : ∀ b o, b < w3.heap.size → w4.frozen? ⟨b, o, none⟩ = w3.frozen? ⟨b, o, none⟩) (h : T < W.heap.size) (h' : T < w3.heap.size)
    (q0 : W.cell? ⟨T, 0, none⟩ = some v0) (q1 : W.cell? ⟨T, 1, none⟩ = some v1) (q2 : W.frozen? ⟨T, 0, none⟩ = false) (q3 : W.frozen? ⟨T, 1, none⟩ = false) :
    w4.cell? ⟨T, 0, none⟩ = some v0 ∧ w4.cell? ⟨T, 1, none⟩ = some v1 ∧ w4.frozen? ⟨T, 0, none⟩ = false ∧ w4.frozen? ⟨T, 1, none⟩ = false :=
  ⟨(hc4 _ _ h').trans ((hc3 _ _ h).trans q0), (hc4 _ _ h').trans ((hc3 _ _ h).trans q1), (hf4 _ _ h').trans ((hf3 _ _ h).trans q2), (hf4 _ _ h').trans ((hf3 _ _ h).trans q3)⟩
abbrev ptV (p : Pt) : Value := .agg #[.int .i64 p.h, .int .i64 p.x]
def dstL (x : Ln) (p : Pt) : (Int × Int) × Int := if vldL x.1 x.2.1 x.2.2 = true ∧ sndP p = true then ((gN (farV x.1 x.2.1 x.2.2 p) x.2.2, gD (farV x.1 x.2.1 x.2.2 p) x.2.2), 0) else ((0, 0), 1)

set_option maxHeartbeats 1000000 in
set_option maxRecDepth 20000 in
theorem p_Distance (a b d : Int) (p : Pt) (w : World) :
    Calls Try.prog 20 #[lineV a b d, .agg #[.int .i64 p.h, .int .i64 p.x]] w fun e w' => e = .returned (.tuple #[frV (dstL (a, b, d) p).1, .int .i64 (dstL (a, b, d) p).2]) ∧ Below w.heap.size w w' := by
  cases hv : vldL a b d
  · rw [show dstL (a, b, d) p = ((0, 0), 1) by simp [dstL, hv]]
    go_enter Try.func20, Try.ntmps20
    go_wp2_with (go_at_call 23; ((with_reducible refine (calls_bool hv (p_validLine a b d _)).mono ?_); rintro e w1 ⟨rfl, hb1⟩; obtain ⟨hc1, hf1⟩ := bcell hb1; have hz1 := hb1.size; (try simp [sz_drew, sz_drewN] at hz1); (try simp only [sz_drew, sz_drewN] at hc1 hf1); have z1_0 : w.heap.size < w1.heap.size := (by omega); have z1_1 : w.heap.size + 1 < w1.heap.size := (by omega); have z1_2 : w.heap.size + 1 + 1 < w1.heap.size := (by omega)))
    (refine bodyPost_ret (v := .tuple #[.agg #[.int .i64 0, .int .i64 0], .int .i64 1]) (by simp [results, Try.results20, go_sem, *]) rfl ⟨rfl, ?_⟩; (repeat' (first | assumption | exact below_refl _ | refine bl_alloc ?_ _ | refine Below.setCell ?_ ?_ _ | refine below_draw ?_ | refine below_drewN ?_ _ | refine below_tr ?_ (by assumption))) <;> (first | omega | (simp; done) | (simp; omega)))
  · cases hs : sndP p
    · rw [show dstL (a, b, d) p = ((0, 0), 1) by simp [dstL, hs]]
      go_enter Try.func20, Try.ntmps20
      go_wp2_with (first
        | (go_at_call 23; ((with_reducible refine (calls_bool hv (p_validLine a b d _)).mono ?_); rintro e w1 ⟨rfl, hb1⟩; obtain ⟨hc1, hf1⟩ := bcell hb1; have hz1 := hb1.size; (try simp [sz_drew, sz_drewN] at hz1); (try simp only [sz_drew, sz_drewN] at hc1 hf1); have z1_0 : w.heap.size < w1.heap.size := (by omega); have z1_1 : w.heap.size + 1 < w1.heap.size := (by omega); have z1_2 : w.heap.size + 1 + 1 < w1.heap.size := (by omega)))
        | (go_at_call 60; ((with_reducible refine (calls_bool hs (p_sound p _)).mono ?_); rintro e w2 ⟨rfl, hb2⟩; obtain ⟨hc2, hf2⟩ := bcell hb2; have hz2 := hb2.size; (try simp [sz_drew, sz_drewN] at hz2); (try simp only [sz_drew, sz_drewN] at hc2 hf2); have z2_0 : w.heap.size < w2.heap.size := (by omega); have z2_1 : w.heap.size + 1 < w2.heap.size := (by omega); have z2_2 : w.heap.size + 1 + 1 < w2.heap.size := (by omega))))
      (refine bodyPost_ret (v := .tuple #[.agg #[.int .i64 0, .int .i64 0], .int .i64 1]) (by simp [results, Try.results20, go_sem, *]) rfl ⟨rfl, ?_⟩; (repeat' (first | assumption | exact below_refl _ | refine bl_alloc ?_ _ | refine Below.setCell ?_ ?_ _ | refine below_draw ?_ | refine below_drewN ?_ _ | refine below_tr ?_ (by assumption))) <;> (first | omega | (simp; done) | (simp; omega)))
    · rw [show dstL (a, b, d) p = ((gN (farV a b d p) d, gD (farV a b d p) d), 0) by simp [dstL, hv, hs]]
      have hl := lb_of (vld_in hv)
      have hp := sp_of hs
      obtain ⟨m0, m1, n0, n1, o0, o1⟩ := ob_of hl hp
      have H0 := Lib.hid (fun W => p_off a b d p W hl hp)
      have d0 := hl.d0
      have d1 := hl.d1
      unfold farV
      generalize offV a b d p = O at *
      clear m0 m1 n0 n1 hl hp
      have H := Lib.hid (fun W => p_lowest (O.natAbs : Int) d W ⟨by omega, by omega⟩ ⟨by omega, by omega⟩ (by omega))
      have e1 : IntKind.i64.wrap (-O) = -O := fits_wrap ⟨by omega, by omega⟩
      rcases (by omega : (O < -O ∧ (O.natAbs : Int) = -O) ∨ (-O ≤ O ∧ (O.natAbs : Int) = O)) with ⟨hm, he⟩ | ⟨hm, he⟩
      all_goals
        rw [he] at H ⊢
        clear he
        go_enter Try.func20, Try.ntmps20
        go_wp2_with (first
          | (go_at_call 23; ((with_reducible refine (calls_bool hv (p_validLine a b d _)).mono ?_); rintro e w1 ⟨rfl, hb1⟩; obtain ⟨hc1, hf1⟩ := bcell hb1; have hz1 := hb1.size; (try simp [sz_drew, sz_drewN] at hz1); (try simp only [sz_drew, sz_drewN] at hc1 hf1); have z1_0 : w.heap.size < w1.heap.size := (by omega); have z1_1 : w.heap.size + 1 < w1.heap.size := (by omega); have z1_2 : w.heap.size + 1 + 1 < w1.heap.size := (by omega)))
          | (go_at_call 60; ((with_reducible refine (calls_bool hs (p_sound p _)).mono ?_); rintro e w2 ⟨rfl, hb2⟩; obtain ⟨hc2, hf2⟩ := bcell hb2; have hz2 := hb2.size; (try simp [sz_drew, sz_drewN] at hz2); (try simp only [sz_drew, sz_drewN] at hc2 hf2); have z2_0 : w.heap.size < w2.heap.size := (by omega); have z2_1 : w.heap.size + 1 < w2.heap.size := (by omega); have z2_2 : w.heap.size + 1 + 1 < w2.heap.size := (by omega)))
          | (go_at_call 63; ((with_reducible refine (H0.out _).mono ?_); rintro e w3 ⟨rfl, hb3⟩; obtain ⟨hc3, hf3⟩ := bcell hb3; have hz3 := hb3.size; (try simp [sz_drew, sz_drewN] at hz3); (try simp only [sz_drew, sz_drewN] at hc3 hf3); have z3_0 : w.heap.size < w3.heap.size := (by omega); have z3_1 : w.heap.size + 1 < w3.heap.size := (by omega); have z3_2 : w.heap.size + 1 + 1 < w3.heap.size := (by omega)))
          | (go_at_call 64; ((with_reducible refine (H.out _).mono ?_); rintro e w4 ⟨rfl, hb4⟩; obtain ⟨hc4, hf4⟩ := bcell hb4; have hz4 := hb4.size; (try simp [sz_drew, sz_drewN] at hz4); (try simp only [sz_drew, sz_drewN] at hc4 hf4); have z4_0 : w.heap.size < w4.heap.size := (by omega); have z4_1 : w.heap.size + 1 < w4.heap.size := (by omega); have z4_2 : w.heap.size + 1 + 1 < w4.heap.size := (by omega))))
        refine bodyPost_ret (v := .tuple #[frV (gN _ d, gD _ d), .int .i64 0]) (by simp [results, Try.results20, go_sem, *]) rfl ⟨rfl, ?_⟩
        (repeat' (first | assumption | exact below_refl _ | refine bl_alloc ?_ _ | refine Below.setCell ?_ ?_ _ | refine below_draw ?_ | refine below_drewN ?_ _ | refine below_tr ?_ (by assumption))) <;> (first | omega | (simp; done) | (simp; omega))
set_option maxHeartbeats 1000000 in
set_option maxRecDepth 20000 in
theorem r_Distance (a b d : Int) (p : Pt) (w : World) :
    Calls Try.prog 27 #[lineV a b d, .agg #[.int .i64 p.h, .int .i64 p.x]] w fun e w' => e = .returned (.tuple #[frV (dstL (a, b, d) p).1, .int .i64 (dstL (a, b, d) p).2]) ∧ Below w.heap.size w w' := by
  cases hv : vldL a b d
  · rw [show dstL (a, b, d) p = ((0, 0), 1) by simp [dstL, hv]]
    go_enter Try.func27, Try.ntmps27
    go_wp2_with (go_at_call 24; ((with_reducible refine (calls_bool hv (r_validLine a b d _)).mono ?_); rintro e w1 ⟨rfl, hb1⟩; obtain ⟨hc1, hf1⟩ := bcell hb1; have hz1 := hb1.size; (try simp [sz_drew, sz_drewN] at hz1); (try simp only [sz_drew, sz_drewN] at hc1 hf1); have z1_0 : w.heap.size < w1.heap.size := (by omega); have z1_1 : w.heap.size + 1 < w1.heap.size := (by omega); have z1_2 : w.heap.size + 1 + 1 < w1.heap.size := (by omega)))
    (refine bodyPost_ret (v := .tuple #[.agg #[.int .i64 0, .int .i64 0], .int .i64 1]) (by simp [results, Try.results27, go_sem, *]) rfl ⟨rfl, ?_⟩; (repeat' (first | assumption | exact below_refl _ | refine bl_alloc ?_ _ | refine Below.setCell ?_ ?_ _ | refine below_draw ?_ | refine below_drewN ?_ _ | refine below_tr ?_ (by assumption))) <;> (first | omega | (simp; done) | (simp; omega)))
  · cases hs : sndP p
    · rw [show dstL (a, b, d) p = ((0, 0), 1) by simp [dstL, hs]]
      go_enter Try.func27, Try.ntmps27
      go_wp2_with (first
        | (go_at_call 24; ((with_reducible refine (calls_bool hv (r_validLine a b d _)).mono ?_); rintro e w1 ⟨rfl, hb1⟩; obtain ⟨hc1, hf1⟩ := bcell hb1; have hz1 := hb1.size; (try simp [sz_drew, sz_drewN] at hz1); (try simp only [sz_drew, sz_drewN] at hc1 hf1); have z1_0 : w.heap.size < w1.heap.size := (by omega); have z1_1 : w.heap.size + 1 < w1.heap.size := (by omega); have z1_2 : w.heap.size + 1 + 1 < w1.heap.size := (by omega)))
        | (go_at_call 62; ((with_reducible refine (calls_bool hs (r_sound p _)).mono ?_); rintro e w2 ⟨rfl, hb2⟩; obtain ⟨hc2, hf2⟩ := bcell hb2; have hz2 := hb2.size; (try simp [sz_drew, sz_drewN] at hz2); (try simp only [sz_drew, sz_drewN] at hc2 hf2); have z2_0 : w.heap.size < w2.heap.size := (by omega); have z2_1 : w.heap.size + 1 < w2.heap.size := (by omega); have z2_2 : w.heap.size + 1 + 1 < w2.heap.size := (by omega))))
      (refine bodyPost_ret (v := .tuple #[.agg #[.int .i64 0, .int .i64 0], .int .i64 1]) (by simp [results, Try.results27, go_sem, *]) rfl ⟨rfl, ?_⟩; (repeat' (first | assumption | exact below_refl _ | refine bl_alloc ?_ _ | refine Below.setCell ?_ ?_ _ | refine below_draw ?_ | refine below_drewN ?_ _ | refine below_tr ?_ (by assumption))) <;> (first | omega | (simp; done) | (simp; omega)))
    · rw [show dstL (a, b, d) p = ((gN (farV a b d p) d, gD (farV a b d p) d), 0) by simp [dstL, hv, hs]]
      have hl := lb_of (vld_in hv)
      have hp := sp_of hs
      obtain ⟨m0, m1, n0, n1, o0, o1⟩ := ob_of hl hp
      have H0 := Lib.hid (fun W => r_far a b d p W hl hp)
      have d0 := hl.d0
      have d1 := hl.d1
      have f0 : farV a b d p ≤ 310000000000000000 := by unfold farV; omega
      have f1 : 0 ≤ farV a b d p := by unfold farV; omega
      generalize farV a b d p = O at *
      clear m0 m1 n0 n1 hl hp
      have H := Lib.hid (fun W => r_lowest O d W ⟨by omega, by omega⟩ ⟨by omega, by omega⟩ (by omega))
      go_enter Try.func27, Try.ntmps27
      go_wp2_with (first
        | (go_at_call 24; ((with_reducible refine (calls_bool hv (r_validLine a b d _)).mono ?_); rintro e w1 ⟨rfl, hb1⟩; obtain ⟨hc1, hf1⟩ := bcell hb1; have hz1 := hb1.size; (try simp [sz_drew, sz_drewN] at hz1); (try simp only [sz_drew, sz_drewN] at hc1 hf1); have z1_0 : w.heap.size < w1.heap.size := (by omega); have z1_1 : w.heap.size + 1 < w1.heap.size := (by omega); have z1_2 : w.heap.size + 1 + 1 < w1.heap.size := (by omega)))
        | (go_at_call 62; ((with_reducible refine (calls_bool hs (r_sound p _)).mono ?_); rintro e w2 ⟨rfl, hb2⟩; obtain ⟨hc2, hf2⟩ := bcell hb2; have hz2 := hb2.size; (try simp [sz_drew, sz_drewN] at hz2); (try simp only [sz_drew, sz_drewN] at hc2 hf2); have z2_0 : w.heap.size < w2.heap.size := (by omega); have z2_1 : w.heap.size + 1 < w2.heap.size := (by omega); have z2_2 : w.heap.size + 1 + 1 < w2.heap.size := (by omega))))
      refine wp_world ?_
      intro W1 hW1
      have bW : Below w.heap.size w W1 := by rw [hW1]; (repeat' (first | assumption | exact below_refl _ | refine bl_alloc ?_ _ | refine Below.setCell ?_ ?_ _ | refine below_draw ?_ | refine below_drewN ?_ _ | refine below_tr ?_ (by assumption))) <;> (first | omega | (simp; done) | (simp; omega))
      have gz : w.heap.size + 1 + 1 < W1.heap.size := by rw [hW1]; assumption
      have gz1 : w.heap.size + 1 < W1.heap.size := by omega
      have gz0 : w.heap.size < W1.heap.size := by omega
      have g0 : W1.cell? ⟨w.heap.size, 0, none⟩ = some (.int .i64 a) := by rw [hW1]; go_simp
      have g1 : W1.cell? ⟨w.heap.size, 1, none⟩ = some (.int .i64 b) := by rw [hW1]; go_simp
      have g2 : W1.cell? ⟨w.heap.size, 2, none⟩ = some (.int .i64 d) := by rw [hW1]; go_simp
      have g3 : W1.cell? ⟨w.heap.size + 1, 0, none⟩ = some (.int .i64 p.h) := by rw [hW1]; go_simp
      have g4 : W1.cell? ⟨w.heap.size + 1, 1, none⟩ = some (.int .i64 p.x) := by rw [hW1]; go_simp
      have q0 : W1.cell? ⟨w.heap.size + 1 + 1, 0, none⟩ = some (.int .i64 0) := by rw [hW1]; go_simp
      have q1 : W1.cell? ⟨w.heap.size + 1 + 1, 1, none⟩ = some (.int .i64 0) := by rw [hW1]; go_simp
      have q2 : W1.frozen? ⟨w.heap.size + 1 + 1, 0, none⟩ = false := by rw [hW1]; go_simp
      have q3 : W1.frozen? ⟨w.heap.size + 1 + 1, 1, none⟩ = false := by rw [hW1]; go_simp
      clear hW1
      have gd : w.heap.size + 1 + 1 < W1.drew.heap.size := gz
      have ne0 : w.heap.size ≠ w.heap.size + 1 + 1 := by omega
      have ne1 : w.heap.size + 1 ≠ w.heap.size + 1 + 1 := by omega
      refine wp_region_noPanic ?_
      refine wp_region_held_drew (S := (fun w' => (∀ b o, b < W1.heap.size → b ≠ w.heap.size + 1 + 1 → w'.cell? ⟨b, o, none⟩ = W1.cell? ⟨b, o, none⟩) ∧ (∀ b o, b < W1.heap.size → w'.frozen? ⟨b, o, none⟩ = W1.frozen? ⟨b, o, none⟩) ∧ W1.heap.size ≤ w'.heap.size ∧ Below w.heap.size w w')) (by kernel_rfl) (kx_draw (kx_refl (by assumption))) (fun hS0 => ?_)
      refine wpAnyH_take (i := 0) (oi := { dst := some 15, op := _, type := _, pos := _, after := _, guard := none }) (v := ?gv1) rfl (by kernel_rfl) (by kernel_rfl) (by kernel_rfl) (fun _ _ _ h => h) (Or.inl ⟨by rfl, ?gy1⟩) (by assumption) ?_
      case gy1 => (intro w' hSw; go_simp; try with_reducible rfl)
      try simp only [Act.put, List.setIfInBounds_toArray, List.set_cons_zero, List.set_cons_succ]
      refine wpAnyH_take (i := 1) (oi := { dst := some 16, op := _, type := _, pos := _, after := _, guard := none }) (v := ?gv2) rfl (by kernel_rfl) (by kernel_rfl) (by kernel_rfl) (fun _ _ _ h => h) (Or.inl ⟨by rfl, ?gy2⟩) (by assumption) ?_
      case gy2 => (intro w' hSw; go_simp; try with_reducible rfl)
      try simp only [Act.put, List.setIfInBounds_toArray, List.set_cons_zero, List.set_cons_succ]
      refine wpAnyH_take (i := 3) (oi := { dst := some 18, op := _, type := _, pos := _, after := _, guard := none }) (v := ?gv3) rfl (by kernel_rfl) (by kernel_rfl) (by kernel_rfl) (fun _ _ _ h => h) (Or.inl ⟨by rfl, ?gy3⟩) (by assumption) ?_
      case gy3 => (intro w' hSw; go_simp; try with_reducible rfl)
      try simp only [Act.put, List.setIfInBounds_toArray, List.set_cons_zero, List.set_cons_succ]
      refine wpAnyH_take (i := 4) (oi := { dst := some 19, op := _, type := _, pos := _, after := _, guard := none }) (v := ?gv4) rfl (by kernel_rfl) (by kernel_rfl) (by kernel_rfl) (fun _ _ _ h => h) (Or.inl ⟨by rfl, ?gy4⟩) (by assumption) ?_
      case gy4 => (intro w' hSw; go_simp; try with_reducible rfl)
      try simp only [Act.put, List.setIfInBounds_toArray, List.set_cons_zero, List.set_cons_succ]
      refine wpAnyH_ready (rs := [2]) (by kernel_rfl) (by simp) ?_
      refine AllReadyH.cons rfl (fun K hK => ?_) AllReadyH.nil
      go_simp
      (go_at_call 72; ((with_reducible refine (H0.out _).mono ?_); rintro e w3 ⟨rfl, hb3⟩; obtain ⟨hc3, hf3⟩ := bcell hb3; have hz3 := hb3.size; (try simp [sz_drew, sz_drewN] at hz3); (try simp only [sz_drew, sz_drewN] at hc3 hf3); have z3_0 : w.heap.size < w3.heap.size := (by omega); have z3_1 : w.heap.size + 1 < w3.heap.size := (by omega); have z3_2 : w.heap.size + 1 + 1 < w3.heap.size := (by omega)))
      refine hK.out _ _ (by (((show Kx w W1 (w.heap.size + 1 + 1) _); (repeat' (first | assumption | exact kx_refl (by assumption) | refine kx_set ?_ ?_ | refine kx_draw ?_ | refine kx_step ?_ (by assumption))); (all_goals (first | omega | (simp; omega)))))) (fun hS1 => ?_)
      clear hK K
      try simp only [Act.put, List.setIfInBounds_toArray, List.set_cons_zero, List.set_cons_succ]
      refine wpAnyH_ready (rs := [5]) (by kernel_rfl) (by simp) ?_
      refine AllReadyH.cons rfl (fun K hK => ?_) AllReadyH.nil
      go_simp
      (go_at_call 71; ((with_reducible refine (H.out _).mono ?_); rintro e w4 ⟨rfl, hb4⟩; obtain ⟨hc4, hf4⟩ := bcell hb4; have hz4 := hb4.size; (try simp [sz_drew, sz_drewN] at hz4); (try simp only [sz_drew, sz_drewN] at hc4 hf4); have z4_0 : w.heap.size < w4.heap.size := (by omega); have z4_1 : w.heap.size + 1 < w4.heap.size := (by omega); have z4_2 : w.heap.size + 1 + 1 < w4.heap.size := (by omega)))
      obtain ⟨r0, r1, r2, r3⟩ := carry4 hc3 hc4 hf3 hf4 gz z3_2 q0 q1 q2 q3; clear hc3 hc4 hf3 hf4
      refine hK.out _ _ (by (((show Kx w W1 (w.heap.size + 1 + 1) _); (repeat' (first | assumption | exact kx_refl (by assumption) | refine kx_set ?_ ?_ | refine kx_draw ?_ | refine kx_step ?_ (by assumption))); (all_goals (first | omega | (simp; omega)))))) (fun hS2 => ?_)
      clear hK K
      try simp only [Act.put, List.setIfInBounds_toArray, List.set_cons_zero, List.set_cons_succ]
      refine wpAnyH_ready (rs := [6]) (by kernel_rfl) (by simp) ?_
      refine AllReadyH.cons rfl (fun K hK => ?_) AllReadyH.nil
      go_simp
      refine hK.out _ _ (by (((show Kx w W1 (w.heap.size + 1 + 1) _); (repeat' (first | assumption | exact kx_refl (by assumption) | refine kx_set ?_ ?_ | refine kx_draw ?_ | refine kx_step ?_ (by assumption))); (all_goals (first | omega | (simp; omega)))))) (fun hS3 => ?_)
      clear hK K
      try simp only [Act.put, List.setIfInBounds_toArray, List.set_cons_zero, List.set_cons_succ]
      refine wpAnyH_take (i := 7) (oi := { dst := some 5, op := _, type := _, pos := _, after := _, guard := none }) (v := ?gv5) rfl (by kernel_rfl) (by kernel_rfl) (by kernel_rfl) (fun _ _ _ h => h) (Or.inl ⟨by rfl, ?gy5⟩) (by assumption) ?_
      case gy5 => (intro w' hSw; go_simp; try with_reducible rfl)
      try simp only [Act.put, List.setIfInBounds_toArray, List.set_cons_zero, List.set_cons_succ]
      refine wpAnyH_done (by kernel_rfl) (NoPanic.normal ?_) _
      go_wp2
      (refine bodyPost_ret (v := .tuple #[frV (gN O d, gD O d), .int .i64 0]) (by simp [results, Try.results27, go_sem, *]) rfl ⟨rfl, ?_⟩; (repeat' (first | assumption | exact below_refl _ | refine bl_alloc ?_ _ | refine Below.setCell ?_ ?_ _ | refine below_draw ?_ | refine below_drewN ?_ _ | refine below_tr ?_ (by assumption))) <;> (first | omega | (simp; done) | (simp; omega)))
end Go.Proofs.Ytohbejdfaecghaa
