/- Lean: Through, by both. -/
import Derived.Test.YtohbejdfaecghaaLtb
set_option linter.unusedSimpArgs false
set_option linter.unusedVariables false
namespace Go.Proofs.Ytohbejdfaecghaa
open Go.RowKit

def thrU (p q : Pt) : Ln := if p.h < q.h then thr3 p q else thr3 q p
def thruL (p q : Pt) : Ln × Int := if sndP p = true ∧ sndP q = true then (if p.h = q.h then ((0, 0, 0), 10) else (thrU p q, 0)) else ((0, 0, 0), 1)
set_option maxHeartbeats 1000000 in
set_option maxRecDepth 20000 in
theorem p_Through (p q : Pt) (w : World) :
    Calls Try.prog 18 #[.agg #[.int .i64 p.h, .int .i64 p.x], .agg #[.int .i64 q.h, .int .i64 q.x]] w fun e w' => e = .returned (.tuple #[lnV (thruL p q).1, .int .i64 (thruL p q).2]) ∧ Below w.heap.size w w' := by
  cases hp : sndP p
  · rw [show thruL p q = ((0, 0, 0), 1) by simp [thruL, hp]]
    go_enter Try.func18, Try.ntmps18
    go_wp2_with (go_at_call 60; ((with_reducible refine (calls_bool hp (p_sound p _)).mono ?_); rintro e w1 ⟨rfl, hb1⟩; obtain ⟨hc1, hf1⟩ := bcell hb1; have hz1 := hb1.size; (try simp [sz_drew, sz_drewN] at hz1); (try simp only [sz_drew, sz_drewN] at hc1 hf1); have z1_0 : w.heap.size < w1.heap.size := (by omega); have z1_1 : w.heap.size + 1 < w1.heap.size := (by omega); have z1_2 : w.heap.size + 1 + 1 < w1.heap.size := (by omega)))
    (refine bodyPost_ret (v := .tuple #[lineV 0 0 0, .int .i64 1]) (by simp [results, Try.results18, go_sem, *]) rfl ⟨rfl, ?_⟩; (repeat' (first | assumption | exact below_refl _ | refine bl_alloc ?_ _ | refine Below.setCell ?_ ?_ _ | refine below_draw ?_ | refine below_drewN ?_ _ | refine below_tr ?_ (by assumption))) <;> (first | omega | (simp; done) | (simp; omega)))
  · cases hq : sndP q
    · rw [show thruL p q = ((0, 0, 0), 1) by simp [thruL, hq]]
      go_enter Try.func18, Try.ntmps18
      go_wp2_with (first
        | (go_at_call 60; ((with_reducible refine (calls_bool hp (p_sound p _)).mono ?_); rintro e w1 ⟨rfl, hb1⟩; obtain ⟨hc1, hf1⟩ := bcell hb1; have hz1 := hb1.size; (try simp [sz_drew, sz_drewN] at hz1); (try simp only [sz_drew, sz_drewN] at hc1 hf1); have z1_0 : w.heap.size < w1.heap.size := (by omega); have z1_1 : w.heap.size + 1 < w1.heap.size := (by omega); have z1_2 : w.heap.size + 1 + 1 < w1.heap.size := (by omega)))
        | (go_at_call 60; ((with_reducible refine (calls_bool hq (p_sound q _)).mono ?_); rintro e w2 ⟨rfl, hb2⟩; obtain ⟨hc2, hf2⟩ := bcell hb2; have hz2 := hb2.size; (try simp [sz_drew, sz_drewN] at hz2); (try simp only [sz_drew, sz_drewN] at hc2 hf2); have z2_0 : w.heap.size < w2.heap.size := (by omega); have z2_1 : w.heap.size + 1 < w2.heap.size := (by omega); have z2_2 : w.heap.size + 1 + 1 < w2.heap.size := (by omega))))
      (refine bodyPost_ret (v := .tuple #[lineV 0 0 0, .int .i64 1]) (by simp [results, Try.results18, go_sem, *]) rfl ⟨rfl, ?_⟩; (repeat' (first | assumption | exact below_refl _ | refine bl_alloc ?_ _ | refine Below.setCell ?_ ?_ _ | refine below_draw ?_ | refine below_drewN ?_ _ | refine below_tr ?_ (by assumption))) <;> (first | omega | (simp; done) | (simp; omega)))
    · by_cases he : p.h = q.h
      · rw [show thruL p q = ((0, 0, 0), 10) by simp [thruL, hp, hq, he]]
        have t1 : (p.h == q.h) = true := by simpa using he
        have HE := Lib.hid he
        clear he
        go_enter Try.func18, Try.ntmps18
        go_wp2_with (first
          | (go_at_call 60; ((with_reducible refine (calls_bool hp (p_sound p _)).mono ?_); rintro e w1 ⟨rfl, hb1⟩; obtain ⟨hc1, hf1⟩ := bcell hb1; have hz1 := hb1.size; (try simp [sz_drew, sz_drewN] at hz1); (try simp only [sz_drew, sz_drewN] at hc1 hf1); have z1_0 : w.heap.size < w1.heap.size := (by omega); have z1_1 : w.heap.size + 1 < w1.heap.size := (by omega); have z1_2 : w.heap.size + 1 + 1 < w1.heap.size := (by omega)))
          | (go_at_call 60; ((with_reducible refine (calls_bool hq (p_sound q _)).mono ?_); rintro e w2 ⟨rfl, hb2⟩; obtain ⟨hc2, hf2⟩ := bcell hb2; have hz2 := hb2.size; (try simp [sz_drew, sz_drewN] at hz2); (try simp only [sz_drew, sz_drewN] at hc2 hf2); have z2_0 : w.heap.size < w2.heap.size := (by omega); have z2_1 : w.heap.size + 1 < w2.heap.size := (by omega); have z2_2 : w.heap.size + 1 + 1 < w2.heap.size := (by omega))))
        (refine bodyPost_ret (v := .tuple #[lineV 0 0 0, .int .i64 10]) (by simp [results, Try.results18, go_sem, *]) rfl ⟨rfl, ?_⟩; (repeat' (first | assumption | exact below_refl _ | refine bl_alloc ?_ _ | refine Below.setCell ?_ ?_ _ | refine below_draw ?_ | refine below_drewN ?_ _ | refine below_tr ?_ (by assumption))) <;> (first | omega | (simp; done) | (simp; omega)))
      · have t1 : (p.h == q.h) = false := by simpa using he
        have H : ∀ W : World, Calls Try.prog 61 #[.agg #[.int .i64 p.h, .int .i64 p.x], .agg #[.int .i64 q.h, .int .i64 q.x]] W fun e w' => e = .returned (lnV (thrU p q)) ∧ Below W.heap.size W w' := fun W => by
          by_cases hlt : p.h < q.h
          · rw [thrU, if_pos hlt]; exact p_through_up p q W (sp_of hp) (sp_of hq) hlt
          · rw [thrU, if_neg hlt]; exact p_through_down p q W (sp_of hp) (sp_of hq) (by omega)
        have H := Lib.hid H
        rw [show thruL p q = (thrU p q, 0) by simp [thruL, hp, hq, he]]
        generalize thrU p q = x at *
        obtain ⟨x0, x1, x2⟩ := x
        clear he
        go_enter Try.func18, Try.ntmps18
        go_wp2_with (first
          | (go_at_call 60; ((with_reducible refine (calls_bool hp (p_sound p _)).mono ?_); rintro e w1 ⟨rfl, hb1⟩; obtain ⟨hc1, hf1⟩ := bcell hb1; have hz1 := hb1.size; (try simp [sz_drew, sz_drewN] at hz1); (try simp only [sz_drew, sz_drewN] at hc1 hf1); have z1_0 : w.heap.size < w1.heap.size := (by omega); have z1_1 : w.heap.size + 1 < w1.heap.size := (by omega); have z1_2 : w.heap.size + 1 + 1 < w1.heap.size := (by omega)))
          | (go_at_call 60; ((with_reducible refine (calls_bool hq (p_sound q _)).mono ?_); rintro e w2 ⟨rfl, hb2⟩; obtain ⟨hc2, hf2⟩ := bcell hb2; have hz2 := hb2.size; (try simp [sz_drew, sz_drewN] at hz2); (try simp only [sz_drew, sz_drewN] at hc2 hf2); have z2_0 : w.heap.size < w2.heap.size := (by omega); have z2_1 : w.heap.size + 1 < w2.heap.size := (by omega); have z2_2 : w.heap.size + 1 + 1 < w2.heap.size := (by omega)))
          | (go_at_call 61; ((with_reducible refine (H.out _).mono ?_); rintro e w3 ⟨rfl, hb3⟩; obtain ⟨hc3, hf3⟩ := bcell hb3; have hz3 := hb3.size; (try simp [sz_drew, sz_drewN] at hz3); (try simp only [sz_drew, sz_drewN] at hc3 hf3); have z3_0 : w.heap.size < w3.heap.size := (by omega); have z3_1 : w.heap.size + 1 < w3.heap.size := (by omega); have z3_2 : w.heap.size + 1 + 1 < w3.heap.size := (by omega))))
        (refine bodyPost_ret (v := .tuple #[lineV x0 x1 x2, .int .i64 0]) (by simp [results, Try.results18, go_sem, *]) rfl ⟨rfl, ?_⟩; (repeat' (first | assumption | exact below_refl _ | refine bl_alloc ?_ _ | refine Below.setCell ?_ ?_ _ | refine below_draw ?_ | refine below_drewN ?_ _ | refine below_tr ?_ (by assumption))) <;> (first | omega | (simp; done) | (simp; omega)))
theorem tb_in {p q : Pt} (hp : SP p) (hq : SP q) (h : p.h < q.h) : inB (thrA p q) (q.x - p.x) (q.h - p.h) = true := by
  obtain ⟨d0, d1, b0, b1, m0, m1, n0, n1⟩ := tb_of hp hq
  simp only [inB, Bool.and_eq_true, wn_iff]
  unfold thrA
  omega
set_option maxHeartbeats 1000000 in
set_option maxRecDepth 20000 in
theorem r_Through (p q : Pt) (w : World) :
    Calls Try.prog 19 #[.agg #[.int .i64 p.h, .int .i64 p.x], .agg #[.int .i64 q.h, .int .i64 q.x]] w fun e w' => e = .returned (.tuple #[lnV (thruL p q).1, .int .i64 (thruL p q).2]) ∧ Below w.heap.size w w' := by
  cases hp : sndP p
  · rw [show thruL p q = ((0, 0, 0), 1) by simp [thruL, hp]]
    go_enter Try.func19, Try.ntmps19
    go_wp2_with (go_at_call 62; ((with_reducible refine (calls_bool hp (r_sound p _)).mono ?_); rintro e w1 ⟨rfl, hb1⟩; obtain ⟨hc1, hf1⟩ := bcell hb1; have hz1 := hb1.size; (try simp [sz_drew, sz_drewN] at hz1); (try simp only [sz_drew, sz_drewN] at hc1 hf1); have z1_0 : w.heap.size < w1.heap.size := (by omega); have z1_1 : w.heap.size + 1 < w1.heap.size := (by omega); have z1_2 : w.heap.size + 1 + 1 < w1.heap.size := (by omega)))
    (refine bodyPost_ret (v := .tuple #[lineV 0 0 0, .int .i64 1]) (by simp [results, Try.results19, go_sem, *]) rfl ⟨rfl, ?_⟩; (repeat' (first | assumption | exact below_refl _ | refine bl_alloc ?_ _ | refine Below.setCell ?_ ?_ _ | refine below_draw ?_ | refine below_drewN ?_ _ | refine below_tr ?_ (by assumption))) <;> (first | omega | (simp; done) | (simp; omega)))
  · cases hq : sndP q
    · rw [show thruL p q = ((0, 0, 0), 1) by simp [thruL, hq]]
      go_enter Try.func19, Try.ntmps19
      go_wp2_with (first
        | (go_at_call 62; ((with_reducible refine (calls_bool hp (r_sound p _)).mono ?_); rintro e w1 ⟨rfl, hb1⟩; obtain ⟨hc1, hf1⟩ := bcell hb1; have hz1 := hb1.size; (try simp [sz_drew, sz_drewN] at hz1); (try simp only [sz_drew, sz_drewN] at hc1 hf1); have z1_0 : w.heap.size < w1.heap.size := (by omega); have z1_1 : w.heap.size + 1 < w1.heap.size := (by omega); have z1_2 : w.heap.size + 1 + 1 < w1.heap.size := (by omega)))
        | (go_at_call 62; ((with_reducible refine (calls_bool hq (r_sound q _)).mono ?_); rintro e w2 ⟨rfl, hb2⟩; obtain ⟨hc2, hf2⟩ := bcell hb2; have hz2 := hb2.size; (try simp [sz_drew, sz_drewN] at hz2); (try simp only [sz_drew, sz_drewN] at hc2 hf2); have z2_0 : w.heap.size < w2.heap.size := (by omega); have z2_1 : w.heap.size + 1 < w2.heap.size := (by omega); have z2_2 : w.heap.size + 1 + 1 < w2.heap.size := (by omega))))
      (refine bodyPost_ret (v := .tuple #[lineV 0 0 0, .int .i64 1]) (by simp [results, Try.results19, go_sem, *]) rfl ⟨rfl, ?_⟩; (repeat' (first | assumption | exact below_refl _ | refine bl_alloc ?_ _ | refine Below.setCell ?_ ?_ _ | refine below_draw ?_ | refine below_drewN ?_ _ | refine below_tr ?_ (by assumption))) <;> (first | omega | (simp; done) | (simp; omega)))
    · by_cases he : p.h = q.h
      · rw [show thruL p q = ((0, 0, 0), 10) by simp [thruL, hp, hq, he]]
        have t1 : (p.h == q.h) = true := by simpa using he
        have HE := Lib.hid he
        clear he
        go_enter Try.func19, Try.ntmps19
        go_wp2_with (first
          | (go_at_call 62; ((with_reducible refine (calls_bool hp (r_sound p _)).mono ?_); rintro e w1 ⟨rfl, hb1⟩; obtain ⟨hc1, hf1⟩ := bcell hb1; have hz1 := hb1.size; (try simp [sz_drew, sz_drewN] at hz1); (try simp only [sz_drew, sz_drewN] at hc1 hf1); have z1_0 : w.heap.size < w1.heap.size := (by omega); have z1_1 : w.heap.size + 1 < w1.heap.size := (by omega); have z1_2 : w.heap.size + 1 + 1 < w1.heap.size := (by omega)))
          | (go_at_call 62; ((with_reducible refine (calls_bool hq (r_sound q _)).mono ?_); rintro e w2 ⟨rfl, hb2⟩; obtain ⟨hc2, hf2⟩ := bcell hb2; have hz2 := hb2.size; (try simp [sz_drew, sz_drewN] at hz2); (try simp only [sz_drew, sz_drewN] at hc2 hf2); have z2_0 : w.heap.size < w2.heap.size := (by omega); have z2_1 : w.heap.size + 1 < w2.heap.size := (by omega); have z2_2 : w.heap.size + 1 + 1 < w2.heap.size := (by omega))))
        (refine bodyPost_ret (v := .tuple #[lineV 0 0 0, .int .i64 10]) (by simp [results, Try.results19, go_sem, *]) rfl ⟨rfl, ?_⟩; (repeat' (first | assumption | exact below_refl _ | refine bl_alloc ?_ _ | refine Below.setCell ?_ ?_ _ | refine below_draw ?_ | refine below_drewN ?_ _ | refine below_tr ?_ (by assumption))) <;> (first | omega | (simp; done) | (simp; omega)))
      · have t1 : (p.h == q.h) = false := by simpa using he
        rw [show thruL p q = (thrU p q, 0) by simp [thruL, hp, hq, he]]
        have sp := sp_of hp
        have sq := sp_of hq
        by_cases hlt : p.h < q.h
        · have hng : ¬ q.h < p.h := by omega
          obtain ⟨d0, d1, b0, b1, m0, m1, n0, n1⟩ := tb_of sp sq
          have hm : makeL (thrA p q) (q.x - p.x) (q.h - p.h) = (thrU p q, 0) := by rw [make_yes (tb_in sp sq hlt), thrU, if_pos hlt]; rfl
          have H := fun W => r_Make (thrA p q) (q.x - p.x) (q.h - p.h) W
          rw [hm] at H
          unfold thrA at H
          have H := Lib.hid H
          clear hm
          generalize thrU p q = x at *
          obtain ⟨x0, x1, x2⟩ := x
          have e1 : IntKind.i64.wrap (q.x - p.x) = q.x - p.x := fits_wrap ⟨by omega, by omega⟩
          have e2 : IntKind.i64.wrap (q.h - p.h) = q.h - p.h := fits_wrap ⟨by omega, by omega⟩
          clear he sp sq
          go_enter Try.func19, Try.ntmps19
          go_wp2_with (first
            | (go_at_call 62; ((with_reducible refine (calls_bool hp (r_sound p _)).mono ?_); rintro e w1 ⟨rfl, hb1⟩; obtain ⟨hc1, hf1⟩ := bcell hb1; have hz1 := hb1.size; (try simp [sz_drew, sz_drewN] at hz1); (try simp only [sz_drew, sz_drewN] at hc1 hf1); have z1_0 : w.heap.size < w1.heap.size := (by omega); have z1_1 : w.heap.size + 1 < w1.heap.size := (by omega); have z1_2 : w.heap.size + 1 + 1 < w1.heap.size := (by omega)))
            | (go_at_call 62; ((with_reducible refine (calls_bool hq (r_sound q _)).mono ?_); rintro e w2 ⟨rfl, hb2⟩; obtain ⟨hc2, hf2⟩ := bcell hb2; have hz2 := hb2.size; (try simp [sz_drew, sz_drewN] at hz2); (try simp only [sz_drew, sz_drewN] at hc2 hf2); have z2_0 : w.heap.size < w2.heap.size := (by omega); have z2_1 : w.heap.size + 1 < w2.heap.size := (by omega); have z2_2 : w.heap.size + 1 + 1 < w2.heap.size := (by omega))))
          go_quiet (fail)
          clear e1 e2
          go_wp2_with (go_at_call 22; ((with_reducible refine (H.out _).mono ?_); rintro e w3 ⟨rfl, hb3⟩; obtain ⟨hc3, hf3⟩ := bcell hb3; have hz3 := hb3.size; (try simp [sz_drew, sz_drewN] at hz3); (try simp only [sz_drew, sz_drewN] at hc3 hf3); have z3_0 : w.heap.size < w3.heap.size := (by omega); have z3_1 : w.heap.size + 1 < w3.heap.size := (by omega); have z3_2 : w.heap.size + 1 + 1 < w3.heap.size := (by omega)))
          (refine bodyPost_ret (v := .tuple #[lineV x0 x1 x2, .int .i64 0]) (by simp [results, Try.results19, go_sem, *]) rfl ⟨rfl, ?_⟩; (repeat' (first | assumption | exact below_refl _ | refine bl_alloc ?_ _ | refine Below.setCell ?_ ?_ _ | refine below_draw ?_ | refine below_drewN ?_ _ | refine below_tr ?_ (by assumption))) <;> (first | omega | (simp; done) | (simp; omega)))
        · have hng : q.h < p.h := by omega
          obtain ⟨d0, d1, b0, b1, m0, m1, n0, n1⟩ := tb_of sq sp
          have hm : makeL (thrA q p) (p.x - q.x) (p.h - q.h) = (thrU p q, 0) := by rw [make_yes (tb_in sq sp hng), thrU, if_neg hlt]; rfl
          have H := fun W => r_Make (thrA q p) (p.x - q.x) (p.h - q.h) W
          rw [hm] at H
          unfold thrA at H
          have H := Lib.hid H
          clear hm
          generalize thrU p q = x at *
          obtain ⟨x0, x1, x2⟩ := x
          have e1 : IntKind.i64.wrap (p.x - q.x) = p.x - q.x := fits_wrap ⟨by omega, by omega⟩
          have e2 : IntKind.i64.wrap (p.h - q.h) = p.h - q.h := fits_wrap ⟨by omega, by omega⟩
          clear he sp sq
          go_enter Try.func19, Try.ntmps19
          go_wp2_with (first
            | (go_at_call 62; ((with_reducible refine (calls_bool hp (r_sound p _)).mono ?_); rintro e w1 ⟨rfl, hb1⟩; obtain ⟨hc1, hf1⟩ := bcell hb1; have hz1 := hb1.size; (try simp [sz_drew, sz_drewN] at hz1); (try simp only [sz_drew, sz_drewN] at hc1 hf1); have z1_0 : w.heap.size < w1.heap.size := (by omega); have z1_1 : w.heap.size + 1 < w1.heap.size := (by omega); have z1_2 : w.heap.size + 1 + 1 < w1.heap.size := (by omega)))
            | (go_at_call 62; ((with_reducible refine (calls_bool hq (r_sound q _)).mono ?_); rintro e w2 ⟨rfl, hb2⟩; obtain ⟨hc2, hf2⟩ := bcell hb2; have hz2 := hb2.size; (try simp [sz_drew, sz_drewN] at hz2); (try simp only [sz_drew, sz_drewN] at hc2 hf2); have z2_0 : w.heap.size < w2.heap.size := (by omega); have z2_1 : w.heap.size + 1 < w2.heap.size := (by omega); have z2_2 : w.heap.size + 1 + 1 < w2.heap.size := (by omega))))
          refine wp_world ?_
          intro W1 hW1
          have bW : Below w.heap.size w W1 := by rw [hW1]; (repeat' (first | assumption | exact below_refl _ | refine bl_alloc ?_ _ | refine Below.setCell ?_ ?_ _ | refine below_draw ?_ | refine below_drewN ?_ _ | refine below_tr ?_ (by assumption))) <;> (first | omega | (simp; done) | (simp; omega))
          have gz : w.heap.size + 1 + 1 < W1.heap.size := by rw [hW1]; simpa using z2_2
          have k0 : w2.cell? ⟨w.heap.size, 0, none⟩ = some (.int .i64 p.h) := by go_simp
          have k1 : w2.cell? ⟨w.heap.size, 1, none⟩ = some (.int .i64 p.x) := by go_simp
          have k2 : w2.cell? ⟨w.heap.size + 1, 0, none⟩ = some (.int .i64 q.h) := by go_simp
          have k3 : w2.cell? ⟨w.heap.size + 1, 1, none⟩ = some (.int .i64 q.x) := by go_simp
          have j1 : (w2.setCell ⟨w.heap.size, 0, none⟩ (.int .i64 q.h)).cell? ⟨w.heap.size, 1, none⟩ = some (.int .i64 p.x) := by go_simp
          have g0 : W1.cell? ⟨w.heap.size, 0, none⟩ = some (.int .i64 q.h) := by rw [hW1]; go_simp <;> exact World.cell?_setCell_same' _ _ _ (by rw [k0]; rfl)
          have g1 : W1.cell? ⟨w.heap.size, 1, none⟩ = some (.int .i64 q.x) := by rw [hW1]; go_simp <;> exact World.cell?_setCell_same' _ _ _ (by rw [j1]; rfl)
          have g2 : W1.cell? ⟨w.heap.size + 1, 0, none⟩ = some (.int .i64 p.h) := by rw [hW1]; go_simp
          have g3 : W1.cell? ⟨w.heap.size + 1, 1, none⟩ = some (.int .i64 p.x) := by rw [hW1]; go_simp
          have q0 : W1.cell? ⟨w.heap.size + 1 + 1, 0, none⟩ = some (.int .i64 0) := by rw [hW1]; go_simp
          have q1 : W1.cell? ⟨w.heap.size + 1 + 1, 1, none⟩ = some (.int .i64 0) := by rw [hW1]; go_simp
          have q2 : W1.cell? ⟨w.heap.size + 1 + 1, 2, none⟩ = some (.int .i64 0) := by rw [hW1]; go_simp
          have f0 : W1.frozen? ⟨w.heap.size + 1 + 1, 0, none⟩ = false := by rw [hW1]; go_simp
          have f1 : W1.frozen? ⟨w.heap.size + 1 + 1, 1, none⟩ = false := by rw [hW1]; go_simp
          have f2 : W1.frozen? ⟨w.heap.size + 1 + 1, 2, none⟩ = false := by rw [hW1]; go_simp
          clear hW1 hc1 hc2 hf1 hf2 hb1 hb2 z1_0 z1_1 z1_2 z2_0 z2_1 z2_2
          go_quiet (fail)
          clear e1 e2
          go_wp2_with (go_at_call 22; ((with_reducible refine (H.out _).mono ?_); rintro e w3 ⟨rfl, hb3⟩; obtain ⟨hc3, hf3⟩ := bcell hb3; have hz3 := hb3.size; (try simp [sz_drew, sz_drewN] at hz3); (try simp only [sz_drew, sz_drewN] at hc3 hf3); have z3_0 : w.heap.size < w3.heap.size := (by omega); have z3_1 : w.heap.size + 1 < w3.heap.size := (by omega); have z3_2 : w.heap.size + 1 + 1 < w3.heap.size := (by omega)))
          (refine bodyPost_ret (v := .tuple #[lineV x0 x1 x2, .int .i64 0]) (by simp [results, Try.results19, go_sem, *]) rfl ⟨rfl, ?_⟩; (repeat' (first | assumption | exact below_refl _ | refine bl_alloc ?_ _ | refine Below.setCell ?_ ?_ _ | refine below_draw ?_ | refine below_drewN ?_ _ | refine below_tr ?_ (by assumption))) <;> (first | omega | (simp; done) | (simp; omega)))
end Go.Proofs.Ytohbejdfaecghaa
