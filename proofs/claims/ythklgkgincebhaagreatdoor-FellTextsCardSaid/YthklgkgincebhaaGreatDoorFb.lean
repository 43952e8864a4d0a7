/- Fell: zones: what is ahead, by the program. -/
import Derived.Test.YthklgkgincebhaaGreatDoorFb0
import Derived.Deep.DeepCutAuto
import Derived.Outline
set_option linter.unusedSimpArgs false
set_option linter.unusedVariables false
namespace Go.Proofs.YthklgkgincebhaaGreatDoor
open Go.RowKit

set_option maxHeartbeats 4000000 in
set_option maxRecDepth 20000 in
theorem p_ahead (z : Zn) (s : Sp) (w : World) (hz : ZB z) (hs : Bd 10000 s) :
    Calls Tryz.prog 52 #[znV z, spV s] w fun e w' => e = .returned (.tuple #[.int .i64 (alz z s), .int .i64 (bez z s), .bool (okz z s)]) ∧ Below w.heap.size w w' := by
  have bv : Bd 20000 (vec z.t z.f) := vec_bd (m := 10000) (n := 10000) hz.t hz.f
  have bp : Bd 20000 (vec s z.f) := vec_bd (m := 10000) (n := 10000) hs hz.f
  have ⟨d1, d2, d3, d4⟩ := dot_bd (n := 800000000) bv bp rfl
  have ⟨v1, v2, _, _⟩ := dot_bd (n := 800000000) bv bv rfl
  have v0 : 0 ≤ vdot (vec z.t z.f) (vec z.t z.f) := by unfold vdot; have := sq_nn (vec z.t z.f).x; have := sq_nn (vec z.t z.f).y; omega
  have ⟨r1, r2⟩ := mul_bd (m := 20000) (n := 20000) (a := z.r) (b := z.r) (by have := hz.r0; omega) hz.r1 (by have := hz.r0; omega) hz.r1
  have ⟨q1, q2⟩ := mul_bd d1 d2 d1 d2
  have ⟨u1, u2⟩ := mul_bd (m := 400000000) (n := 800000000) (a := z.r * z.r) (b := vdot (vec z.t z.f) (vec z.t z.f)) (by omega) (by omega) v1 v2
  have HL1 := Lib.hid (fun W => p_less z.t z.f W (hz.t.mono (by omega)) (hz.f.mono (by omega)))
  have HL2 := Lib.hid (fun W => p_less s z.f W (hs.mono (by omega)) (hz.f.mono (by omega)))
  have HD1 := Lib.hid (fun W => p_dot (vec z.t z.f) (vec s z.f) W (bv.mono (by omega)) (bp.mono (by omega)))
  have HD2 := Lib.hid (fun W => p_cross (vec z.t z.f) (vec s z.f) W (bv.mono (by omega)) (bp.mono (by omega)))
  have HD3 := Lib.hid (fun W => p_dot (vec z.t z.f) (vec z.t z.f) W (bv.mono (by omega)) (bv.mono (by omega)))
  unfold okz bez
  unfold alz
  generalize vdot (vec z.t z.f) (vec s z.f) = AL at *
  generalize vcr (vec z.t z.f) (vec s z.f) = CR at *
  generalize vdot (vec z.t z.f) (vec z.t z.f) = VV at *
  generalize vec z.t z.f = v at *
  generalize vec s z.f = p at *
  have e1 : -640000000000000000 ≤ AL * AL ∧ AL * AL ≤ 640000000000000000 := by omega
  have e2 : -400000000 ≤ z.r * z.r ∧ z.r * z.r ≤ 400000000 := by omega
  have e3 : -320000000000000000 ≤ z.r * z.r * VV ∧ z.r * z.r * VV ≤ 320000000000000000 := by omega
  obtain ⟨e11, e12⟩ := e1
  obtain ⟨e21, e22⟩ := e2
  obtain ⟨e31, e32⟩ := e3
  clear hz hs bv bp q1 q2 u1 u2 r1 r2
  go_enter Tryz.func52, Tryz.ntmps52
  go_wp2_with fail
  have x0 := (Blk.new w 40 (znC z)).alloc (.cells (spA s) 32)
  have x1 := Blk.new (w.alloc (.cells (znC z) 40)) 32 (spA s)
  rw [World.size_alloc] at x1
  have B0 := bl_alloc (bl_alloc (below_refl w) (.cells (znC z) 40)) (.cells (spA s) 32)
  generalize (w.alloc (.cells (znC z) 40)).alloc (.cells (spA s) 32) = W at *
  have x0_0 := x0.cell 0
  have x0_1 := x0.cell 1
  have x0_2 := x0.cell 2
  have x0_3 := x0.cell 3
  have x0_4 := x0.cell 4
  have x0_5 := x0.cell 5
  have x1_0 := x1.cell 0
  have x1_1 := x1.cell 1
  simp only [List.getElem?_toArray, List.getElem?_cons_zero, List.getElem?_cons_succ] at x0_0 x0_1 x0_2 x0_3 x0_4 x0_5 x1_0 x1_1
  have z0 := x0.lt
  have z1 := x1.lt
  go_upto_region 2 with fail
  go_cut [7, 8] (fun s7 s8 wx => ∃ g h : Nat, s7 = .pointer (some ⟨g, 0, none⟩) ∧ s8 = .pointer (some ⟨h, 0, none⟩) ∧ wx.cell? ⟨g, 0, none⟩ = some (.int .i64 v.x) ∧ wx.cell? ⟨g, 1, none⟩ = some (.int .i64 v.y) ∧ wx.cell? ⟨h, 0, none⟩ = some (.int .i64 p.x) ∧ wx.cell? ⟨h, 1, none⟩ = some (.int .i64 p.y) ∧ g < wx.heap.size ∧ h < wx.heap.size ∧ Below W.heap.size W wx)
  case first =>
    go_region_held3 (fun w' => (∀ b o, b < W.heap.size → w'.cell? ⟨b, o, none⟩ = W.cell? ⟨b, o, none⟩) ∧ (∀ b o, b < W.heap.size → w'.frozen? ⟨b, o, none⟩ = W.frozen? ⟨b, o, none⟩) ∧ Below W.heap.size W w') ((first | assumption | (refine kp_of ?_; (repeat' (first | assumption | exact below_refl _ | refine bl_alloc ?_ _ | refine Below.setCell ?_ ?_ _ | refine below_draw ?_ | refine below_drewN ?_ _ | refine below_tr ?_ (by assumption))) <;> (first | omega | (simp; done) | (simp; omega))))) ((first | (go_at_call 44; ((with_reducible refine (HL1.out _).mono ?_); rintro e w3 ⟨rfl, hb3⟩; obtain ⟨hc3, hf3⟩ := bcell hb3; have hz3 := hb3.size; (try simp [sz_drew, sz_drewN] at hz3); (try simp only [sz_drew, sz_drewN] at hc3 hf3); (try (refine (fun (y3_0 : W.heap.size  < w3.heap.size) => ?_) ?_; rotate_left; omega)); (try (refine (fun (v3_0 : W.heap.size  ≤ w3.heap.size) => ?_) ?_; rotate_left; omega)); (try (refine (fun (y3_1 : W.heap.size + 1 < w3.heap.size) => ?_) ?_; rotate_left; omega)); (try (refine (fun (v3_1 : W.heap.size + 1 ≤ w3.heap.size) => ?_) ?_; rotate_left; omega)))) | (go_at_call 44; ((with_reducible refine (HL2.out _).mono ?_); rintro e w4 ⟨rfl, hb4⟩; obtain ⟨hc4, hf4⟩ := bcell hb4; have hz4 := hb4.size; (try simp [sz_drew, sz_drewN] at hz4); (try simp only [sz_drew, sz_drewN] at hc4 hf4); (try (refine (fun (y4_0 : W.heap.size  < w4.heap.size) => ?_) ?_; rotate_left; omega)); (try (refine (fun (v4_0 : W.heap.size  ≤ w4.heap.size) => ?_) ?_; rotate_left; omega)); (try (refine (fun (y4_1 : W.heap.size + 1 < w4.heap.size) => ?_) ?_; rotate_left; omega)); (try (refine (fun (v4_1 : W.heap.size + 1 ≤ w4.heap.size) => ?_) ?_; rotate_left; omega)); (try (refine (fun (y4_2 : w3.heap.size  < w4.heap.size) => ?_) ?_; rotate_left; omega)); (try (refine (fun (v4_2 : w3.heap.size  ≤ w4.heap.size) => ?_) ?_; rotate_left; omega)); (try (refine (fun (y4_3 : w3.heap.size + 1 < w4.heap.size) => ?_) ?_; rotate_left; omega)); (try (refine (fun (v4_3 : w3.heap.size + 1 ≤ w4.heap.size) => ?_) ?_; rotate_left; omega))))))
    all_goals go_wp2
    all_goals go_meet
    all_goals (have L2 : ∀ n : Nat, n < n + 1 + 1 := fun n => by omega)
    all_goals exact ⟨_, _, rfl, rfl, by (first | (go_simp; done) | (go_simp; refine World.cell?_setCell_same (u := .int .i64 0) _ _ _ ?_; go_simp)), by (first | (go_simp; done) | (go_simp; refine World.cell?_setCell_same (u := .int .i64 0) _ _ _ ?_; go_simp)), by (first | (go_simp; done) | (go_simp; refine World.cell?_setCell_same (u := .int .i64 0) _ _ _ ?_; go_simp)), by (first | (go_simp; done) | (go_simp; refine World.cell?_setCell_same (u := .int .i64 0) _ _ _ ?_; go_simp)), by (simp [World.setCell] <;> omega), by (simp [World.setCell] <;> omega), by (repeat' (first | assumption | exact below_refl _ | refine bl_alloc ?_ _ | refine Below.setCell ?_ ?_ _ | refine below_draw ?_ | refine below_drewN ?_ _ | refine below_tr ?_ (by assumption))) <;> (first | omega | (simp; done) | (simp; omega))⟩
  case rest =>
    obtain ⟨g, h, rfl, rfl, g0, g1, h0, h1, gl, hl, hbx⟩ := hcut
    obtain ⟨wx, hwx⟩ : ∃ wx : World, wx = wc := ⟨wc, rfl⟩
    rw [← hwx] at g0 g1 h0 h1 gl hl hbx ⊢
    clear hwx
    have BX := below_tr B0 hbx
    have y4 : wx.cell? ⟨w.heap.size, 4, none⟩ = some (.int .i64 z.r) := by rw [(bcell hbx).1 _ _ z0]; exact x0_4
    have yz : w.heap.size < wx.heap.size := Nat.lt_of_lt_of_le z0 hbx.size
    clear x0 x1 x0_0 x0_1 x0_2 x0_3 x0_4 x0_5 x1_0 x1_1 z0 z1 HL1 HL2
    go_wp2_with fail
    go_region_held3 (fun w' => (∀ b o, b < wx.heap.size → w'.cell? ⟨b, o, none⟩ = wx.cell? ⟨b, o, none⟩) ∧ (∀ b o, b < wx.heap.size → w'.frozen? ⟨b, o, none⟩ = wx.frozen? ⟨b, o, none⟩) ∧ Below wx.heap.size wx w') ((first | assumption | (refine kp_of ?_; (repeat' (first | assumption | exact below_refl _ | refine bl_alloc ?_ _ | refine Below.setCell ?_ ?_ _ | refine below_draw ?_ | refine below_drewN ?_ _ | refine below_tr ?_ (by assumption))) <;> (first | omega | (simp; done) | (simp; omega))))) ((first | (go_at_call 45; ((with_reducible refine (HD1.out _).mono ?_); rintro e w5 ⟨rfl, hb5⟩; obtain ⟨hc5, hf5⟩ := bcell hb5; have hz5 := hb5.size; (try simp [sz_drew, sz_drewN] at hz5); (try simp only [sz_drew, sz_drewN] at hc5 hf5))) | (go_at_call 43; ((with_reducible refine (HD2.out _).mono ?_); rintro e w6 ⟨rfl, hb6⟩; obtain ⟨hc6, hf6⟩ := bcell hb6; have hz6 := hb6.size; (try simp [sz_drew, sz_drewN] at hz6); (try simp only [sz_drew, sz_drewN] at hc6 hf6)))))
    go_wp2_with fail
    refine wp_world ?_
    intro w6 hw6
    have B6 : Below wx.heap.size wx w6 := by rw [hw6]; (repeat' (first | assumption | exact below_refl _ | refine bl_alloc ?_ _ | refine Below.setCell ?_ ?_ _ | refine below_draw ?_ | refine below_drewN ?_ _ | refine below_tr ?_ (by assumption))) <;> (first | omega | (simp; done) | (simp; omega))
    clear hw6
    have e0 : w6.cell? ⟨g, 0, none⟩ = some (.int .i64 v.x) := by rw [(bcell B6).1 _ _ gl]; exact g0
    have e1 : w6.cell? ⟨g, 1, none⟩ = some (.int .i64 v.y) := by rw [(bcell B6).1 _ _ gl]; exact g1
    have e4 : w6.cell? ⟨w.heap.size, 4, none⟩ = some (.int .i64 z.r) := by rw [(bcell B6).1 _ _ yz]; exact y4
    have el : g < w6.heap.size := Nat.lt_of_lt_of_le gl B6.size
    have ez : w.heap.size < w6.heap.size := Nat.lt_of_lt_of_le yz B6.size
    have BW := below_tr BX B6
    clear g0 g1 h0 h1 gl hl hbx y4 yz B6 BX B0 HD1 HD2
    have hw1 : IntKind.i64.wrap (-CR) = -CR := fits_wrap (by omega)
    have hw2 : IntKind.i64.wrap (AL * AL) = AL * AL := fits_wrap (by omega)
    have hw3 : IntKind.i64.wrap (z.r * z.r) = z.r * z.r := fits_wrap (by omega)
    have hw4 : IntKind.i64.wrap (z.r * z.r * VV) = z.r * z.r * VV := fits_wrap (by omega)
    rcases (by omega : (CR < 0 ∧ CR < -CR) ∨ (0 ≤ CR ∧ ¬ CR < -CR)) with ⟨hS, hS'⟩ | ⟨hS, hS'⟩
    all_goals
      by_cases hA : 0 ≤ AL
      · have hd : decide (0 ≤ AL) = true := decide_eq_true hA
        go_region_held3 (fun w' => (∀ b o, b < w6.heap.size → w'.cell? ⟨b, o, none⟩ = w6.cell? ⟨b, o, none⟩) ∧ (∀ b o, b < w6.heap.size → w'.frozen? ⟨b, o, none⟩ = w6.frozen? ⟨b, o, none⟩) ∧ Below w6.heap.size w6 w') ((first | assumption | (refine kp_of ?_; (repeat' (first | assumption | exact below_refl _ | refine bl_alloc ?_ _ | refine Below.setCell ?_ ?_ _ | refine below_draw ?_ | refine below_drewN ?_ _ | refine below_tr ?_ (by assumption))) <;> (first | omega | (simp; done) | (simp; omega))))) ((first | (go_at_call 45; ((with_reducible refine (HD3.out _).mono ?_); rintro e w7 ⟨rfl, hb7⟩; obtain ⟨hc7, hf7⟩ := bcell hb7; have hz7 := hb7.size; (try simp [sz_drew, sz_drewN] at hz7); (try simp only [sz_drew, sz_drewN] at hc7 hf7)))))
        all_goals
          go_wp2
          go_ret3
          exact ⟨ret_tup3 rfl (int_eq (by omega)) (by first | rfl | simp [hA]), below_tr BW (by (repeat' (first | assumption | exact below_refl _ | refine bl_alloc ?_ _ | refine Below.setCell ?_ ?_ _ | refine below_draw ?_ | refine below_drewN ?_ _ | refine below_tr ?_ (by assumption))) <;> (first | omega | (simp; done) | (simp; omega)))⟩
      · have hd : decide (0 ≤ AL) = false := decide_eq_false hA
        go_quiet (fail)
        go_wp2
        go_ret3
        exact ⟨ret_tup3 rfl (int_eq (by omega)) (by first | rfl | simp [hA]), below_drewN BW _⟩
end Go.Proofs.YthklgkgincebhaaGreatDoor
