/- Fell: in a zone, by the reference. -/
import Derived.Test.YtkeojokbpjdhpaaFy
import Derived.Test.YtkeojokbpjdhpaaFe
import Derived.Test.YtkeojokbpjdhpaaFkq
import Derived.Deep.DeepCutAuto
import Derived.Outline
set_option linter.unusedSimpArgs false
set_option linter.unusedVariables false
namespace Go.Proofs.Ytkeojokbpjdhpaa
open Go.RowKit

set_option maxHeartbeats 4000000 in
set_option maxRecDepth 20000 in
theorem r_in (z : Zn) (s : Sp) (w : World) (hz : ZB z) (w0 : 0 ≤ z.w) (w1 : z.w ≤ 1000) (hs : Bd 10000 s) :
    Calls Try.prog 58 #[znV z, spV s] w fun e w' => e = .returned (.bool (inZ z s)) ∧ Below w.heap.size w w' := by
  have bv : Bd 20000 (vec z.t z.f) := vec_bd (m := 10000) (n := 10000) hz.t hz.f
  have bp : Bd 20000 (vec s z.f) := vec_bd (m := 10000) (n := 10000) hs hz.f
  have ⟨d1, d2, d3, d4⟩ := dot_bd (n := 800000000) bv bp rfl
  have ⟨v1, v2, _, _⟩ := dot_bd (n := 800000000) bv bv rfl
  have v0 : 0 ≤ vdot (vec z.t z.f) (vec z.t z.f) := by unfold vdot; have := sq_nn (vec z.t z.f).x; have := sq_nn (vec z.t z.f).y; omega
  have ⟨r1, r2⟩ := mul_bd (m := 20000) (n := 20000) (a := z.r) (b := z.r) (by have := hz.r0; omega) hz.r1 (by have := hz.r0; omega) hz.r1
  have ⟨q1, q2⟩ := mul_bd d1 d2 d1 d2
  have ⟨u1, u2⟩ := mul_bd (m := 400000000) (n := 800000000) (a := z.r * z.r) (b := vdot (vec z.t z.f) (vec z.t z.f)) (by omega) (by omega) v1 v2
  have HL1 := Lib.hid (fun W => r_minus z.t z.f W (hz.t.mono (by omega)) (hz.f.mono (by omega)))
  have HL2 := Lib.hid (fun W => r_minus s z.f W (hs.mono (by omega)) (hz.f.mono (by omega)))
  have HD1 := Lib.hid (fun W => r_Dot (vec z.t z.f) (vec s z.f) W (bv.mono (by omega)) (bp.mono (by omega)))
  have HD2 := Lib.hid (fun W => r_cross (vec z.t z.f) (vec s z.f) W (bv.mono (by omega)) (bp.mono (by omega)))
  have HD3 := Lib.hid (fun W => r_Dot (vec z.t z.f) (vec z.t z.f) W (bv.mono (by omega)) (bv.mono (by omega)))
  have ⟨m1, m2⟩ := mul_bd (m := 1000) (n := 800000000) (a := z.w) (b := vdot (vec z.t z.f) (vec s z.f)) (by omega) w1 d1 d2
  have HI := Lib.hid (show inZ z s = ((decide (0 ≤ vdot (vec z.t z.f) (vec s z.f)) && decide (vdot (vec z.t z.f) (vec s z.f) * vdot (vec z.t z.f) (vec s z.f) ≤ z.r * z.r * vdot (vec z.t z.f) (vec z.t z.f))) && decide (1000 * szI (vcr (vec z.t z.f) (vec s z.f)) ≤ z.w * vdot (vec z.t z.f) (vec s z.f))) from rfl)
  have HSZ := Lib.hid (fun W => r_size (vcr (vec z.t z.f) (vec s z.f)) W (by omega) (by omega))
  have sz0 : 0 ≤ szI (vcr (vec z.t z.f) (vec s z.f)) ∧ szI (vcr (vec z.t z.f) (vec s z.f)) ≤ 800000000 := by unfold szI; omega
  obtain ⟨R, hRR⟩ : ∃ R : Bool, R = inZ z s := ⟨_, rfl⟩
  rw [← hRR]
  have HRR := Lib.hid (hRR.trans HI.out)
  clear hRR HI
  generalize szI (vcr (vec z.t z.f) (vec s z.f)) = SZ at *
  generalize vdot (vec z.t z.f) (vec s z.f) = AL at *
  generalize vcr (vec z.t z.f) (vec s z.f) = CR at *
  generalize vdot (vec z.t z.f) (vec z.t z.f) = VV at *
  generalize vec z.t z.f = v at *
  generalize vec s z.f = p at *
  have e1 : -640000000000000000 ≤ AL * AL ∧ AL * AL ≤ 640000000000000000 := by omega
  have e2 : -400000000 ≤ z.r * z.r ∧ z.r * z.r ≤ 400000000 := by omega
  have e3 : -320000000000000000 ≤ z.r * z.r * VV ∧ z.r * z.r * VV ≤ 320000000000000000 := by omega
  obtain ⟨e11, e12⟩ := e1
  obtain ⟨e21, e22⟩ := e2
  obtain ⟨e31, e32⟩ := e3
  have m3 : z.w * AL ≤ 800000000000 := by omega
  have m4 : -800000000000 ≤ z.w * AL := by omega
  clear hz hs bv bp q1 q2 u1 u2 r1 r2 m1 m2
  go_enter Try.func58, Try.ntmps58
  go_wp2_with fail
  have x0 := (Blk.new w 44 (znC z)).alloc (.cells (spA s) 24)
  have x1 := Blk.new (w.alloc (.cells (znC z) 44)) 24 (spA s)
  rw [World.size_alloc] at x1
  have B0 := bl_alloc (bl_alloc (below_refl w) (.cells (znC z) 44)) (.cells (spA s) 24)
  generalize (w.alloc (.cells (znC z) 44)).alloc (.cells (spA s) 24) = W at *
  have x0_0 := x0.cell 0
  have x0_1 := x0.cell 1
  have x0_2 := x0.cell 2
  have x0_3 := x0.cell 3
  have x0_4 := x0.cell 4
  have x0_5 := x0.cell 5
  have x1_0 := x1.cell 0
  have x1_1 := x1.cell 1
  simp only [List.getElem?_toArray, List.getElem?_cons_zero, List.getElem?_cons_succ] at x0_0 x0_1 x0_2 x0_3 x0_4 x0_5 x1_0 x1_1
  have z0 := x0.lt
  have z1 := x1.lt
  go_upto_region 2 with fail
  go_cut [5, 6] (fun s7 s8 wx => ∃ g h : Nat, s7 = .pointer (some ⟨g, 0, none⟩) ∧ s8 = .pointer (some ⟨h, 0, none⟩) ∧ wx.cell? ⟨g, 0, none⟩ = some (.int .i64 v.x) ∧ wx.cell? ⟨g, 1, none⟩ = some (.int .i64 v.y) ∧ wx.cell? ⟨h, 0, none⟩ = some (.int .i64 p.x) ∧ wx.cell? ⟨h, 1, none⟩ = some (.int .i64 p.y) ∧ g < wx.heap.size ∧ h < wx.heap.size ∧ Below W.heap.size W wx)
  case first =>
    go_region_held3 (fun w' => (∀ b o, b < W.heap.size → w'.cell? ⟨b, o, none⟩ = W.cell? ⟨b, o, none⟩) ∧ (∀ b o, b < W.heap.size → w'.frozen? ⟨b, o, none⟩ = W.frozen? ⟨b, o, none⟩) ∧ Below W.heap.size W w') ((first | assumption | (refine kp_of ?_; (repeat' (first | assumption | exact below_refl _ | refine bl_alloc ?_ _ | refine Below.setCell ?_ ?_ _ | refine below_draw ?_ | refine below_drewN ?_ _ | refine below_tr ?_ (by assumption))) <;> (first | omega | (simp; done) | (simp; omega))))) ((first | (go_at_call 40; ((with_reducible refine (HL1.out _).mono ?_); rintro e w3 ⟨rfl, hb3⟩; obtain ⟨hc3, hf3⟩ := bcell hb3; have hz3 := hb3.size; (try simp [sz_drew, sz_drewN] at hz3); (try simp only [sz_drew, sz_drewN] at hc3 hf3); (try (refine (fun (y3_0 : W.heap.size  < w3.heap.size) => ?_) ?_; rotate_left; omega)); (try (refine (fun (v3_0 : W.heap.size  ≤ w3.heap.size) => ?_) ?_; rotate_left; omega)); (try (refine (fun (y3_1 : W.heap.size + 1 < w3.heap.size) => ?_) ?_; rotate_left; omega)); (try (refine (fun (v3_1 : W.heap.size + 1 ≤ w3.heap.size) => ?_) ?_; rotate_left; omega)))) | (go_at_call 40; ((with_reducible refine (HL2.out _).mono ?_); rintro e w4 ⟨rfl, hb4⟩; obtain ⟨hc4, hf4⟩ := bcell hb4; have hz4 := hb4.size; (try simp [sz_drew, sz_drewN] at hz4); (try simp only [sz_drew, sz_drewN] at hc4 hf4); (try (refine (fun (y4_0 : W.heap.size  < w4.heap.size) => ?_) ?_; rotate_left; omega)); (try (refine (fun (v4_0 : W.heap.size  ≤ w4.heap.size) => ?_) ?_; rotate_left; omega)); (try (refine (fun (y4_1 : W.heap.size + 1 < w4.heap.size) => ?_) ?_; rotate_left; omega)); (try (refine (fun (v4_1 : W.heap.size + 1 ≤ w4.heap.size) => ?_) ?_; rotate_left; omega)); (try (refine (fun (y4_2 : w3.heap.size  < w4.heap.size) => ?_) ?_; rotate_left; omega)); (try (refine (fun (v4_2 : w3.heap.size  ≤ w4.heap.size) => ?_) ?_; rotate_left; omega)); (try (refine (fun (y4_3 : w3.heap.size + 1 < w4.heap.size) => ?_) ?_; rotate_left; omega)); (try (refine (fun (v4_3 : w3.heap.size + 1 ≤ w4.heap.size) => ?_) ?_; rotate_left; omega))))))
    all_goals go_wp2
    all_goals go_meet
    all_goals (have L2 : ∀ n : Nat, n < n + 1 + 1 := fun n => by omega)
    all_goals exact ⟨_, _, rfl, rfl, by (first | (go_simp; done) | (go_simp; refine World.cell?_setCell_same (u := .int .i64 0) _ _ _ ?_; go_simp)), by (first | (go_simp; done) | (go_simp; refine World.cell?_setCell_same (u := .int .i64 0) _ _ _ ?_; go_simp)), by (first | (go_simp; done) | (go_simp; refine World.cell?_setCell_same (u := .int .i64 0) _ _ _ ?_; go_simp)), by (first | (go_simp; done) | (go_simp; refine World.cell?_setCell_same (u := .int .i64 0) _ _ _ ?_; go_simp)), by (simp [World.setCell] <;> omega), by (simp [World.setCell] <;> omega), by (repeat' (first | assumption | exact below_refl _ | refine bl_alloc ?_ _ | refine Below.setCell ?_ ?_ _ | refine below_draw ?_ | refine below_drewN ?_ _ | refine below_tr ?_ (by assumption))) <;> (first | omega | (simp; done) | (simp; omega))⟩
  case rest =>
    obtain ⟨g, h, rfl, rfl, g0, g1, h0, h1, gl, hl, hbx⟩ := hcut
    obtain ⟨wx, hwx⟩ : ∃ wx : World, wx = wc := ⟨wc, rfl⟩
    rw [← hwx] at g0 g1 h0 h1 gl hl hbx ⊢
    clear hwx
    have BX := below_tr B0 hbx
    have y4 : wx.cell? ⟨w.heap.size, 4, none⟩ = some (.int .i64 z.r) := by rw [(bcell hbx).1 _ _ z0]; exact x0_4
    have y5 : wx.cell? ⟨w.heap.size, 5, none⟩ = some (.int .i64 z.w) := by rw [(bcell hbx).1 _ _ z0]; exact x0_5
    have yz : w.heap.size < wx.heap.size := Nat.lt_of_lt_of_le z0 hbx.size
    clear x0 x1 x0_0 x0_1 x0_2 x0_3 x0_4 x0_5 x1_0 x1_1 z0 z1 HL1 HL2
    go_wp2_with fail
    refine (HD1.out _).mono ?_
    rintro e w6 ⟨rfl, hb6⟩
    have e0 : w6.cell? ⟨g, 0, none⟩ = some (.int .i64 v.x) := by rw [(bcell hb6).1 _ _ gl]; exact g0
    have e1 : w6.cell? ⟨g, 1, none⟩ = some (.int .i64 v.y) := by rw [(bcell hb6).1 _ _ gl]; exact g1
    have f0 : w6.cell? ⟨h, 0, none⟩ = some (.int .i64 p.x) := by rw [(bcell hb6).1 _ _ hl]; exact h0
    have f1 : w6.cell? ⟨h, 1, none⟩ = some (.int .i64 p.y) := by rw [(bcell hb6).1 _ _ hl]; exact h1
    have e4 : w6.cell? ⟨w.heap.size, 4, none⟩ = some (.int .i64 z.r) := by rw [(bcell hb6).1 _ _ yz]; exact y4
    have e5 : w6.cell? ⟨w.heap.size, 5, none⟩ = some (.int .i64 z.w) := by rw [(bcell hb6).1 _ _ yz]; exact y5
    have el : g < w6.heap.size := Nat.lt_of_lt_of_le gl hb6.size
    have eh : h < w6.heap.size := Nat.lt_of_lt_of_le hl hb6.size
    have ez : w.heap.size < w6.heap.size := Nat.lt_of_lt_of_le yz hb6.size
    have BW := below_tr BX hb6
    clear g0 g1 h0 h1 gl hl hbx y4 y5 yz hb6 BX B0 HD1
    obtain ⟨s0, s1⟩ := sz0
    have hw2 : IntKind.i64.wrap (AL * AL) = AL * AL := fits_wrap (by omega)
    have hw3 : IntKind.i64.wrap (z.r * z.r) = z.r * z.r := fits_wrap (by omega)
    have hw4 : IntKind.i64.wrap (z.r * z.r * VV) = z.r * z.r * VV := fits_wrap (by omega)
    have hw5 : IntKind.i64.wrap (1000 * SZ) = 1000 * SZ := fits_wrap (by omega)
    have hw6 : IntKind.i64.wrap (z.w * AL) = z.w * AL := fits_wrap (by omega)
    by_cases hA : 0 ≤ AL
    · have hd : decide (0 ≤ AL) = true := decide_eq_true hA
      by_cases hQ : AL * AL ≤ z.r * z.r * VV
      · have hdq : decide (AL * AL ≤ z.r * z.r * VV) = true := decide_eq_true hQ
        have HE := Lib.hid (show R = decide (1000 * SZ ≤ z.w * AL) by rw [HRR.out, hd, hdq]; rfl)
        go_wp2_with fail
        go_region_held3 (fun w' => (∀ b o, b < w6.heap.size → w'.cell? ⟨b, o, none⟩ = w6.cell? ⟨b, o, none⟩) ∧ (∀ b o, b < w6.heap.size → w'.frozen? ⟨b, o, none⟩ = w6.frozen? ⟨b, o, none⟩) ∧ Below w6.heap.size w6 w') ((first | assumption | (refine kp_of ?_; (repeat' (first | assumption | exact below_refl _ | refine bl_alloc ?_ _ | refine Below.setCell ?_ ?_ _ | refine below_draw ?_ | refine below_drewN ?_ _ | refine below_tr ?_ (by assumption))) <;> (first | omega | (simp; done) | (simp; omega))))) ((first | (go_at_call 21; ((with_reducible refine (HD3.out _).mono ?_); rintro e w7 ⟨rfl, hb7⟩; obtain ⟨hc7, hf7⟩ := bcell hb7; have hz7 := hb7.size; (try simp [sz_drew, sz_drewN] at hz7); (try simp only [sz_drew, sz_drewN] at hc7 hf7))) | (go_at_call 39; ((with_reducible refine (HD2.out _).mono ?_); rintro e w8 ⟨rfl, hb8⟩; obtain ⟨hc8, hf8⟩ := bcell hb8; have hz8 := hb8.size; (try simp [sz_drew, sz_drewN] at hz8); (try simp only [sz_drew, sz_drewN] at hc8 hf8))) | (go_at_call 81; ((with_reducible refine (HSZ.out _).mono ?_); rintro e w' ⟨rfl, rfl⟩))))
        all_goals
          go_wp2
          go_ret
          exact ⟨ret_bool HE.out.symm, below_tr BW (by (repeat' (first | assumption | exact below_refl _ | refine bl_alloc ?_ _ | refine Below.setCell ?_ ?_ _ | refine below_draw ?_ | refine below_drewN ?_ _ | refine below_tr ?_ (by assumption))) <;> (first | omega | (simp; done) | (simp; omega)))⟩
      · have hdq : decide (AL * AL ≤ z.r * z.r * VV) = false := decide_eq_false hQ
        have HE := Lib.hid (show R = false by rw [HRR.out, hd, hdq]; rfl)
        go_wp2_with fail
        refine wp_region_noPanic ?_
        refine wp_region_held_drew (S := (fun w' => (∀ b o, b < w6.heap.size → w'.cell? ⟨b, o, none⟩ = w6.cell? ⟨b, o, none⟩) ∧ (∀ b o, b < w6.heap.size → w'.frozen? ⟨b, o, none⟩ = w6.frozen? ⟨b, o, none⟩) ∧ Below w6.heap.size w6 w')) (by kernel_rfl) (kq_draw kq_refl) (fun hS0 => ?_)
        refine wpAnyH_take (i := 0) (oi := { dst := some 20, op := _, type := _, pos := _, after := _, guard := none }) (v := ?gv1) rfl (by kernel_rfl) (by kernel_rfl) (by kernel_rfl) (fun _ _ _ h => h) (Or.inl ⟨by rfl, ?gy1⟩) (by assumption) ?_
        case gy1 => (intro w' hSw; go_simp; try with_reducible rfl)
        try simp only [Act.put, List.setIfInBounds_toArray, List.set_cons_zero, List.set_cons_succ]
        refine wpAnyH_take (i := 1) (oi := { dst := some 21, op := _, type := _, pos := _, after := _, guard := none }) (v := ?gv2) rfl (by kernel_rfl) (by kernel_rfl) (by kernel_rfl) (fun _ _ _ h => h) (Or.inl ⟨by rfl, ?gy2⟩) (by assumption) ?_
        case gy2 => (intro w' hSw; go_simp; try with_reducible rfl)
        try simp only [Act.put, List.setIfInBounds_toArray, List.set_cons_zero, List.set_cons_succ]
        refine wpAnyH_take (i := 2) (oi := { dst := some 22, op := _, type := _, pos := _, after := _, guard := none }) (v := ?gv3) rfl (by kernel_rfl) (by kernel_rfl) (by kernel_rfl) (fun _ _ _ h => h) (Or.inl ⟨by rfl, ?gy3⟩) (by assumption) ?_
        case gy3 => (intro w' hSw; go_simp; try with_reducible rfl)
        try simp only [Act.put, List.setIfInBounds_toArray, List.set_cons_zero, List.set_cons_succ]
        refine wpAnyH_take (i := 3) (oi := { dst := some 23, op := _, type := _, pos := _, after := _, guard := some (2, true) }) (v := ?gv4) rfl (by kernel_rfl) (by kernel_rfl) (by kernel_rfl) (fun _ _ _ h => h) (Or.inl ⟨by rfl, ?gy4⟩) (by assumption) ?_
        case gy4 => (intro w' hSw; go_simp; try with_reducible rfl)
        try simp only [Act.put, List.setIfInBounds_toArray, List.set_cons_zero, List.set_cons_succ]
        refine wpAnyH_take (i := 4) (oi := { dst := some 24, op := _, type := _, pos := _, after := _, guard := some (2, true) }) (v := ?gv5) rfl (by kernel_rfl) (by kernel_rfl) (by kernel_rfl) (fun _ _ _ h => h) (Or.inl ⟨by rfl, ?gy5⟩) (by assumption) ?_
        case gy5 => (intro w' hSw; go_simp; try with_reducible rfl)
        try simp only [Act.put, List.setIfInBounds_toArray, List.set_cons_zero, List.set_cons_succ]
        refine wpAnyH_take (i := 5) (oi := { dst := some 25, op := _, type := _, pos := _, after := _, guard := some (2, true) }) (v := ?gv6) rfl (by kernel_rfl) (by kernel_rfl) (by kernel_rfl) (fun _ _ _ h => h) (Or.inl ⟨by rfl, ?gy6⟩) (by assumption) ?_
        case gy6 => (intro w' hSw; go_simp; try with_reducible rfl)
        try simp only [Act.put, List.setIfInBounds_toArray, List.set_cons_zero, List.set_cons_succ]
        refine wpAnyH_take (i := 6) (oi := { dst := some 26, op := _, type := _, pos := _, after := _, guard := some (2, true) }) (v := ?gv7) rfl (by kernel_rfl) (by kernel_rfl) (by kernel_rfl) (fun _ _ _ h => h) (Or.inl ⟨by rfl, ?gy7⟩) (by assumption) ?_
        case gy7 => (intro w' hSw; go_simp; try with_reducible rfl)
        try simp only [Act.put, List.setIfInBounds_toArray, List.set_cons_zero, List.set_cons_succ]
        refine wpAnyH_take (i := 7) (oi := { dst := some 27, op := _, type := _, pos := _, after := _, guard := some (2, true) }) (v := ?gv8) rfl (by kernel_rfl) (by kernel_rfl) (by kernel_rfl) (fun _ _ _ h => h) (Or.inl ⟨by rfl, ?gy8⟩) (by assumption) ?_
        case gy8 => (intro w' hSw; go_simp; try with_reducible rfl)
        try simp only [Act.put, List.setIfInBounds_toArray, List.set_cons_zero, List.set_cons_succ]
        refine wpAnyH_take (i := 8) (oi := { dst := some 28, op := _, type := _, pos := _, after := _, guard := some (2, true) }) (v := ?gv9) rfl (by kernel_rfl) (by kernel_rfl) (by kernel_rfl) (fun _ _ _ h => h) (Or.inl ⟨by rfl, ?gy9⟩) (by assumption) ?_
        case gy9 => (intro w' hSw; go_simp; try with_reducible rfl)
        try simp only [Act.put, List.setIfInBounds_toArray, List.set_cons_zero, List.set_cons_succ]
        refine wpAnyH_take (i := 9) (oi := { dst := some 29, op := _, type := _, pos := _, after := _, guard := some (2, true) }) (v := ?gv10) rfl (by kernel_rfl) (by kernel_rfl) (by kernel_rfl) (fun _ _ _ h => h) (Or.inl ⟨by rfl, ?gy10⟩) (by assumption) ?_
        case gy10 => (intro w' hSw; go_simp; try with_reducible rfl)
        try simp only [Act.put, List.setIfInBounds_toArray, List.set_cons_zero, List.set_cons_succ]
        refine wpAnyH_take (i := 10) (oi := { dst := some 30, op := _, type := _, pos := _, after := _, guard := some (2, true) }) (v := ?gv11) rfl (by kernel_rfl) (by kernel_rfl) (by kernel_rfl) (fun _ _ _ h => h) (Or.inl ⟨by rfl, ?gy11⟩) (by assumption) ?_
        case gy11 => (intro w' hSw; go_simp; try with_reducible rfl)
        try simp only [Act.put, List.setIfInBounds_toArray, List.set_cons_zero, List.set_cons_succ]
        refine wpAnyH_take (i := 11) (oi := { dst := some 31, op := _, type := _, pos := _, after := _, guard := some (2, true) }) (v := ?gv12) rfl (by kernel_rfl) (by kernel_rfl) (by kernel_rfl) (fun _ _ _ h => h) (Or.inl ⟨by rfl, ?gy12⟩) (by assumption) ?_
        case gy12 => (intro w' hSw; go_simp; try with_reducible rfl)
        try simp only [Act.put, List.setIfInBounds_toArray, List.set_cons_zero, List.set_cons_succ]
        refine wpAnyH_take (i := 12) (oi := { dst := some 32, op := _, type := _, pos := _, after := _, guard := some (2, true) }) (v := ?gv13) rfl (by kernel_rfl) (by kernel_rfl) (by kernel_rfl) (fun _ _ _ h => h) (Or.inl ⟨by rfl, ?gy13⟩) (by assumption) ?_
        case gy13 => (intro w' hSw; go_simp; try with_reducible rfl)
        try simp only [Act.put, List.setIfInBounds_toArray, List.set_cons_zero, List.set_cons_succ]
        refine wpAnyH_ready (rs := [13]) (by kernel_rfl) (by simp) ?_
        refine AllReadyH.cons rfl (fun K hK => ?_) AllReadyH.nil
        go_simp
        (go_at_call 21; ((with_reducible refine (HD3.out _).mono ?_); rintro e w7 ⟨rfl, hb7⟩; obtain ⟨hc7, hf7⟩ := bcell hb7; have hz7 := hb7.size; (try simp [sz_drew, sz_drewN] at hz7); (try simp only [sz_drew, sz_drewN] at hc7 hf7)))
        refine hK.out _ _ (by ((show Kq w6 _); (repeat' (first | assumption | exact kq_refl | refine kq_draw ?_ | refine kq_drewN ?_ | refine kq_alloc ?_ | refine kq_set ?_ ?_ | refine kq_step ?_ (by assumption))); (all_goals (first | omega | (simp; omega))))) (fun hS1 => ?_)
        clear hK K
        try simp only [Act.put, List.setIfInBounds_toArray, List.set_cons_zero, List.set_cons_succ]
        refine wpAnyH_take (i := 14) (oi := { dst := some 34, op := _, type := _, pos := _, after := _, guard := some (2, true) }) (v := ?gv14) rfl (by kernel_rfl) (by kernel_rfl) (by kernel_rfl) (fun _ _ _ h => h) (Or.inl ⟨by rfl, ?gy14⟩) (by assumption) ?_
        case gy14 => (intro w' hSw; go_simp; try with_reducible rfl)
        try simp only [Act.put, List.setIfInBounds_toArray, List.set_cons_zero, List.set_cons_succ]
        refine wpAnyH_take (i := 15) (oi := { dst := some 35, op := _, type := _, pos := _, after := _, guard := some (2, true) }) (v := ?gv15) rfl (by kernel_rfl) (by kernel_rfl) (by kernel_rfl) (fun _ _ _ h => h) (Or.inl ⟨by rfl, ?gy15⟩) (by assumption) ?_
        case gy15 => (intro w' hSw; go_simp; try with_reducible rfl)
        try simp only [Act.put, List.setIfInBounds_toArray, List.set_cons_zero, List.set_cons_succ]
        refine wpAnyH_take (i := 16) (oi := { dst := some 36, op := _, type := _, pos := _, after := _, guard := none }) (v := ?gv16) rfl (by kernel_rfl) (by kernel_rfl) (by kernel_rfl) (fun _ _ _ h => h) (Or.inl ⟨by rfl, ?gy16⟩) (by assumption) ?_
        case gy16 => (intro w' hSw; go_simp; try with_reducible rfl)
        try simp only [Act.put, List.setIfInBounds_toArray, List.set_cons_zero, List.set_cons_succ]
        refine wpAnyH_take (i := 17) (oi := { dst := some 37, op := _, type := _, pos := _, after := _, guard := none }) (v := ?gv17) rfl (by kernel_rfl) (by kernel_rfl) (by kernel_rfl) (fun _ _ _ h => h) (Or.inl ⟨by rfl, ?gy17⟩) (by assumption) ?_
        case gy17 => (intro w' hSw; go_simp; try with_reducible rfl)
        try simp only [Act.put, List.setIfInBounds_toArray, List.set_cons_zero, List.set_cons_succ]
        refine wpAnyH_take (i := 18) (oi := { dst := some 38, op := _, type := _, pos := _, after := _, guard := some (17, true) }) (v := undef) rfl (by kernel_rfl) (by kernel_rfl) (by kernel_rfl) (fun _ _ _ h => h) (Or.inr ⟨by rfl, rfl⟩) (by assumption) ?_
        try simp only [Act.put, List.setIfInBounds_toArray, List.set_cons_zero, List.set_cons_succ]
        refine wpAnyH_take (i := 19) (oi := { dst := some 39, op := _, type := _, pos := _, after := _, guard := some (17, true) }) (v := undef) rfl (by kernel_rfl) (by kernel_rfl) (by kernel_rfl) (fun _ _ _ h => h) (Or.inr ⟨by rfl, rfl⟩) (by assumption) ?_
        try simp only [Act.put, List.setIfInBounds_toArray, List.set_cons_zero, List.set_cons_succ]
        refine wpAnyH_take (i := 20) (oi := { dst := some 40, op := _, type := _, pos := _, after := _, guard := some (17, true) }) (v := undef) rfl (by kernel_rfl) (by kernel_rfl) (by kernel_rfl) (fun _ _ _ h => h) (Or.inr ⟨by rfl, rfl⟩) (by assumption) ?_
        try simp only [Act.put, List.setIfInBounds_toArray, List.set_cons_zero, List.set_cons_succ]
        refine wpAnyH_take (i := 21) (oi := { dst := some 41, op := _, type := _, pos := _, after := _, guard := some (17, true) }) (v := undef) rfl (by kernel_rfl) (by kernel_rfl) (by kernel_rfl) (fun _ _ _ h => h) (Or.inr ⟨by rfl, rfl⟩) (by assumption) ?_
        try simp only [Act.put, List.setIfInBounds_toArray, List.set_cons_zero, List.set_cons_succ]
        refine wpAnyH_take (i := 22) (oi := { dst := some 42, op := _, type := _, pos := _, after := _, guard := some (17, true) }) (v := undef) rfl (by kernel_rfl) (by kernel_rfl) (by kernel_rfl) (fun _ _ _ h => h) (Or.inr ⟨by rfl, rfl⟩) (by assumption) ?_
        try simp only [Act.put, List.setIfInBounds_toArray, List.set_cons_zero, List.set_cons_succ]
        refine wpAnyH_take (i := 23) (oi := { dst := some 43, op := _, type := _, pos := _, after := _, guard := some (17, true) }) (v := undef) rfl (by kernel_rfl) (by kernel_rfl) (by kernel_rfl) (fun _ _ _ h => h) (Or.inr ⟨by rfl, rfl⟩) (by assumption) ?_
        try simp only [Act.put, List.setIfInBounds_toArray, List.set_cons_zero, List.set_cons_succ]
        refine wpAnyH_take (i := 24) (oi := { dst := some 44, op := _, type := _, pos := _, after := _, guard := some (17, true) }) (v := undef) rfl (by kernel_rfl) (by kernel_rfl) (by kernel_rfl) (fun _ _ _ h => h) (Or.inr ⟨by rfl, rfl⟩) (by assumption) ?_
        try simp only [Act.put, List.setIfInBounds_toArray, List.set_cons_zero, List.set_cons_succ]
        refine wpAnyH_take (i := 25) (oi := { dst := some 45, op := _, type := _, pos := _, after := _, guard := some (17, true) }) (v := undef) rfl (by kernel_rfl) (by kernel_rfl) (by kernel_rfl) (fun _ _ _ h => h) (Or.inr ⟨by rfl, rfl⟩) (by assumption) ?_
        try simp only [Act.put, List.setIfInBounds_toArray, List.set_cons_zero, List.set_cons_succ]
        refine wpAnyH_take (i := 26) (oi := { dst := some 46, op := _, type := _, pos := _, after := _, guard := some (17, true) }) (v := undef) rfl (by kernel_rfl) (by kernel_rfl) (by kernel_rfl) (fun _ _ _ h => h) (Or.inr ⟨by rfl, rfl⟩) (by assumption) ?_
        try simp only [Act.put, List.setIfInBounds_toArray, List.set_cons_zero, List.set_cons_succ]
        refine wpAnyH_take (i := 27) (oi := { dst := some 47, op := _, type := _, pos := _, after := _, guard := some (17, true) }) (v := undef) rfl (by kernel_rfl) (by kernel_rfl) (by kernel_rfl) (fun _ _ _ h => h) (Or.inr ⟨by rfl, rfl⟩) (by assumption) ?_
        try simp only [Act.put, List.setIfInBounds_toArray, List.set_cons_zero, List.set_cons_succ]
        refine wpAnyH_take (i := 28) (oi := { dst := some 48, op := _, type := _, pos := _, after := _, guard := none }) (v := ?gv18) rfl (by kernel_rfl) (by kernel_rfl) (by kernel_rfl) (fun _ _ _ h => h) (Or.inl ⟨by rfl, ?gy18⟩) (by assumption) ?_
        case gy18 => (intro w' hSw; go_simp; try with_reducible rfl)
        try simp only [Act.put, List.setIfInBounds_toArray, List.set_cons_zero, List.set_cons_succ]
        refine wpAnyH_take (i := 29) (oi := { dst := some 4, op := _, type := _, pos := _, after := _, guard := none }) (v := ?gv19) rfl (by kernel_rfl) (by kernel_rfl) (by kernel_rfl) (fun _ _ _ h => h) (Or.inl ⟨by rfl, ?gy19⟩) (by assumption) ?_
        case gy19 => (intro w' hSw; go_simp; try with_reducible rfl)
        try simp only [Act.put, List.setIfInBounds_toArray, List.set_cons_zero, List.set_cons_succ]
        refine wpAnyH_done (by kernel_rfl) (NoPanic.normal ?_) _
        go_wp2
        go_ret
        exact ⟨ret_bool HE.out.symm, below_tr BW (by (repeat' (first | assumption | exact below_refl _ | refine bl_alloc ?_ _ | refine Below.setCell ?_ ?_ _ | refine below_draw ?_ | refine below_drewN ?_ _ | refine below_tr ?_ (by assumption))) <;> (first | omega | (simp; done) | (simp; omega)))⟩
    · have hd : decide (0 ≤ AL) = false := decide_eq_false hA
      have HE := Lib.hid (show R = false by rw [HRR.out, hd]; rfl)
      go_wp2_with fail
      go_quiet (fail)
      go_wp2
      go_ret
      exact ⟨ret_bool HE.out.symm, below_drewN BW _⟩
set_option maxHeartbeats 2000000 in
theorem r_In (z : Zn) (s : Sp) (w : World) :
    Calls Try.prog 30 #[znV z, spV s] w fun e w' => e = .returned (.tuple #[.bool (inD z s), .int .i64 (inE z s)]) ∧ Below w.heap.size w w' := by
  have HV := Lib.hid (fun W => r_ValidZone z W)
  have x0 := (Blk.new w 44 (znC z)).alloc (.cells (spA s) 24)
  have x1 := Blk.new (w.alloc (.cells (znC z) 44)) 24 (spA s)
  rw [World.size_alloc] at x1
  have B0 := bl_alloc (bl_alloc (below_refl w) (.cells (znC z) 44)) (.cells (spA s) 24)
  have HS := Lib.hid (fun b (h : isS s = b) W => r_IsSpotV h W)
  cases hv : vZn z
  · have HE := Lib.hid (show inE z s = 1 by unfold inE; rw [hv]; rfl)
    have HD := Lib.hid (show inD z s = false by unfold inD; rw [HE.out]; rfl)
    rw [hv] at HV
    clear hv
    go_enter Try.func30, Try.ntmps30
    go_wp2_with fail
    refine (HV.out _).mono ?_
    rintro e w1 ⟨rfl, hb1⟩
    go_wp2
    go_ret2
    exact ⟨by rw [HE.out, HD.out]; rfl, below_tr B0 hb1⟩
  · cases hs : isS s
    · have HE := Lib.hid (show inE z s = 7 by unfold inE; rw [hv, hs]; rfl)
      have HD := Lib.hid (show inD z s = false by unfold inD; rw [HE.out]; rfl)
      have HS' := Lib.hid (HS.out _ hs)
      rw [hv] at HV
      clear hv hs HS
      go_enter Try.func30, Try.ntmps30
      go_wp2_with fail
      refine (HV.out _).mono ?_
      rintro e w1 ⟨rfl, hb1⟩
      have y1 := x1.below hb1 x1.lt
      have p0 := y1.cell 0
      have p1 := y1.cell 1
      simp only [List.getElem?_toArray, List.getElem?_cons_zero, List.getElem?_cons_succ] at p0 p1
      go_wp2_with fail
      refine (HS'.out _).mono ?_
      rintro e w2 ⟨rfl, hb2⟩
      go_wp2
      go_ret2
      exact ⟨by rw [HE.out, HD.out]; rfl, below_tr (below_tr B0 hb1) hb2⟩
    · have HE := Lib.hid (show inE z s = 0 by unfold inE; rw [hv, hs]; rfl)
      have HD := Lib.hid (show inD z s = inZ z s by unfold inD; rw [HE.out]; rfl)
      have HS' := Lib.hid (HS.out _ hs)
      have hvv := vzn hv
      have HI := Lib.hid (fun W => r_in z s W (vzn_bd hv) hvv.2.2.2.2.2.1 hvv.2.2.2.2.2.2 (isS_bd hs))
      rw [hv] at HV
      clear hv hs HS hvv
      go_enter Try.func30, Try.ntmps30
      go_wp2_with fail
      refine (HV.out _).mono ?_
      rintro e w1 ⟨rfl, hb1⟩
      have y0 := x0.below hb1 x0.lt
      have y1 := x1.below hb1 x1.lt
      have p0 := y1.cell 0
      have p1 := y1.cell 1
      simp only [List.getElem?_toArray, List.getElem?_cons_zero, List.getElem?_cons_succ] at p0 p1
      go_wp2_with fail
      refine (HS'.out _).mono ?_
      rintro e w2 ⟨rfl, hb2⟩
      have u0 := y0.below hb2 y0.lt
      have u1 := y1.below hb2 y1.lt
      have q0 := u0.cell 0
      have q1 := u0.cell 1
      have q2 := u0.cell 2
      have q3 := u0.cell 3
      have q4 := u0.cell 4
      have q5 := u0.cell 5
      have r0 := u1.cell 0
      have r1 := u1.cell 1
      simp only [List.getElem?_toArray, List.getElem?_cons_zero, List.getElem?_cons_succ] at q0 q1 q2 q3 q4 q5 r0 r1
      go_wp2_with fail
      refine (HI.out _).mono ?_
      rintro e w3 ⟨rfl, hb3⟩
      go_wp2
      go_ret2
      exact ⟨by rw [HE.out, HD.out]; rfl, below_tr (below_tr (below_tr B0 hb1) hb2) hb3⟩
end Go.Proofs.Ytkeojokbpjdhpaa
