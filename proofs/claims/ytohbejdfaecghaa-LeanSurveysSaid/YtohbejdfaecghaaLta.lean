/- Lean: Make, At, by both. -/
import Derived.Test.YtohbejdfaecghaaLg
set_option linter.unusedSimpArgs false
set_option linter.unusedVariables false
namespace Go.Proofs.Ytohbejdfaecghaa
open Go.RowKit

theorem bl_alloc {w W : World} (h : Below w.heap.size w W) (o : Obj) : Below w.heap.size w (W.alloc o) := h.alloc h.size o
theorem sz_drew (w : World) : w.drew.heap.size = w.heap.size := rfl
theorem sz_drewN (w : World) (n : Nat) : (w.drewN n).heap.size = w.heap.size := rfl
theorem calls_bool {P : Program} {f : FuncId} {args : Array Value} {w : World} {R : World → Prop} {X v : Bool} (h : X = v) (c : Calls P f args w fun e w' => e = .returned (.bool X) ∧ R w') : Calls P f args w fun e w' => e = .returned (.bool v) ∧ R w' := h ▸ c
abbrev lnV (x : Ln) : Value := lineV x.1 x.2.1 x.2.2
abbrev frV (x : Int × Int) : Value := .agg #[.int .i64 x.1, .int .i64 x.2]
def makeL (a b d : Int) : Ln × Int := if inB a b d = true then (mk3 a b d, 0) else ((0, 0, 0), 7)
theorem make_yes {a b d : Int} (h : inB a b d = true) : makeL a b d = (mk3 a b d, 0) := if_pos h
theorem make_no {a b d : Int} (h : inB a b d = false) : makeL a b d = ((0, 0, 0), 7) := if_neg (by simp [h])
theorem in_fits {a b d : Int} (h : inB a b d = true) : Fits a ∧ Fits b ∧ Fits d ∧ 0 < d := by
  obtain ⟨a0, a1, b0, b1, d0, d1⟩ := lb_of h
  exact ⟨⟨by omega, by omega⟩, ⟨by omega, by omega⟩, ⟨by omega, by omega⟩, by omega⟩

set_option maxHeartbeats 1000000 in
set_option maxRecDepth 20000 in
theorem p_Make (a b d : Int) (w : World) :
    Calls Try.prog 21 #[.int .i64 a, .int .i64 b, .int .i64 d] w fun e w' => e = .returned (.tuple #[lnV (makeL a b d).1, .int .i64 (makeL a b d).2]) ∧ Below w.heap.size w w' := by
  cases hi : inB a b d
  · rw [make_no hi]
    have HI := Lib.hid hi
    clear hi
    go_enter Try.func21, Try.ntmps21
    go_wp2_with (go_at_call 65; ((with_reducible refine (p_within _ _ _ _).mono ?_); rintro e w' ⟨rfl, rfl⟩))
    all_goals first
      | (refine bodyPost_ret (v := .tuple #[lineV 0 0 0, .int .i64 7]) (by simp [results, Try.results21, go_sem, *]) rfl ⟨rfl, ?_⟩; (repeat' (first | assumption | exact below_refl _ | refine bl_alloc ?_ _ | refine Below.setCell ?_ ?_ _ | refine below_draw ?_ | refine below_drewN ?_ _ | refine below_tr ?_ (by assumption))) <;> (first | omega | (simp; done) | (simp; omega)))
      | exact absurd HI.out (by have h := ‹(!wn d 1 1000000000000) = false›; simp at h; simp [inB, *])
  · rw [make_yes hi]
    obtain ⟨f1, f2, f3, f4⟩ := in_fits hi
    have H := Lib.hid (fun W => p_made a b d W f1 f2 f3 f4)
    simp only [inB, Bool.and_eq_true] at hi
    obtain ⟨i1, i2, i3⟩ := hi
    unfold mk3
    generalize m3 a b d a = A at *
    generalize m3 a b d b = B at *
    generalize m3 a b d d = D at *
    go_enter Try.func21, Try.ntmps21
    go_wp2_with (first
      | (go_at_call 65; ((with_reducible refine (calls_bool i1 (p_within a _ _ _)).mono ?_); rintro e w' ⟨rfl, rfl⟩))
      | (go_at_call 65; ((with_reducible refine (calls_bool i2 (p_within b _ _ _)).mono ?_); rintro e w' ⟨rfl, rfl⟩))
      | (go_at_call 65; ((with_reducible refine (calls_bool i3 (p_within d _ _ _)).mono ?_); rintro e w' ⟨rfl, rfl⟩))
      | (go_at_call 66; ((with_reducible refine (H.out _).mono ?_); rintro e w1 ⟨rfl, hb1⟩; obtain ⟨hc1, hf1⟩ := bcell hb1; have hz1 := hb1.size; (try simp [sz_drew, sz_drewN] at hz1); (try simp only [sz_drew, sz_drewN] at hc1 hf1); have z1_0 : w.heap.size < w1.heap.size := (by omega))))
    (refine bodyPost_ret (v := .tuple #[lineV A B D, .int .i64 0]) (by simp [results, Try.results21, go_sem, *]) rfl ⟨rfl, ?_⟩; (repeat' (first | assumption | exact below_refl _ | refine bl_alloc ?_ _ | refine Below.setCell ?_ ?_ _ | refine below_draw ?_ | refine below_drewN ?_ _ | refine below_tr ?_ (by assumption))) <;> (first | omega | (simp; done) | (simp; omega)))
set_option maxHeartbeats 1000000 in
set_option maxRecDepth 20000 in
theorem r_Make (a b d : Int) (w : World) :
    Calls Try.prog 22 #[.int .i64 a, .int .i64 b, .int .i64 d] w fun e w' => e = .returned (.tuple #[lnV (makeL a b d).1, .int .i64 (makeL a b d).2]) ∧ Below w.heap.size w w' := by
  cases hi : inB a b d
  · rw [make_no hi]
    go_enter Try.func22, Try.ntmps22
    go_wp2_with (go_at_call 67; ((with_reducible refine (calls_bool hi (r_inBounds a b d _)).mono ?_); rintro e w' ⟨rfl, rfl⟩))
    (refine bodyPost_ret (v := .tuple #[lineV 0 0 0, .int .i64 7]) (by simp [results, Try.results22, go_sem, *]) rfl ⟨rfl, ?_⟩; (repeat' (first | assumption | exact below_refl _ | refine bl_alloc ?_ _ | refine Below.setCell ?_ ?_ _ | refine below_draw ?_ | refine below_drewN ?_ _ | refine below_tr ?_ (by assumption))) <;> (first | omega | (simp; done) | (simp; omega)))
  · rw [make_yes hi]
    obtain ⟨f1, f2, f3, f4⟩ := in_fits hi
    obtain ⟨v1, v2, v3⟩ := g3_dvd a b d
    have hg := g3_pos (a := a) (b := b) f4
    have e1 : IntKind.i64.wrap (a.tdiv (g3 a b d : Int)) = m3 a b d a := by rw [tdiv_g3 v1]; exact fits_wrap (fits_m3 v1 f1)
    have e2 : IntKind.i64.wrap (b.tdiv (g3 a b d : Int)) = m3 a b d b := by rw [tdiv_g3 v2]; exact fits_wrap (fits_m3 v2 f2)
    have e3 : IntKind.i64.wrap (d.tdiv (g3 a b d : Int)) = m3 a b d d := by rw [tdiv_g3 v3]; exact fits_wrap (fits_m3 v3 f3)
    have K1 := fun W => r_divisor a b W f1 f2
    have K2 := fun W => r_divisor (Int.gcd a b : Int) d W (fits_gcd f1 f2) f3
    rw [show Int.gcd (Int.gcd a b : Int) d = g3 a b d from rfl] at K2
    have H1 := Lib.hid K1
    have H2 := Lib.hid K2
    clear K1 K2 v1 v2 v3 f1 f2 f3 f4
    unfold mk3
    generalize m3 a b d a = A at *
    generalize m3 a b d b = B at *
    generalize m3 a b d d = D at *
    generalize g3 a b d = G at *
    have hp : ¬ ((G : Nat) : Int) = 0 := by omega
    have t1 : (((G : Nat) : Int) == 0) = false := by simpa using hp
    go_enter Try.func22, Try.ntmps22
    go_wp2_with (first
      | (go_at_call 67; ((with_reducible refine (calls_bool hi (r_inBounds a b d _)).mono ?_); rintro e w' ⟨rfl, rfl⟩))
      | (go_at_call 68; ((with_reducible refine (H1.out _).mono ?_); rintro e w1 ⟨rfl, hb1⟩; obtain ⟨hc1, hf1⟩ := bcell hb1; have hz1 := hb1.size; (try simp [sz_drew, sz_drewN] at hz1); (try simp only [sz_drew, sz_drewN] at hc1 hf1); have z1_0 : w.heap.size < w1.heap.size := (by omega)))
      | (go_at_call 68; ((with_reducible refine (H2.out _).mono ?_); rintro e w2 ⟨rfl, hb2⟩; obtain ⟨hc2, hf2⟩ := bcell hb2; have hz2 := hb2.size; (try simp [sz_drew, sz_drewN] at hz2); (try simp only [sz_drew, sz_drewN] at hc2 hf2); have z2_0 : w.heap.size < w2.heap.size := (by omega))))
    go_region
    go_wp2
    (refine bodyPost_ret (v := .tuple #[lineV A B D, .int .i64 0]) (by simp [results, Try.results22, go_sem, *]) rfl ⟨rfl, ?_⟩; (repeat' (first | assumption | exact below_refl _ | refine bl_alloc ?_ _ | refine Below.setCell ?_ ?_ _ | refine below_draw ?_ | refine below_drewN ?_ _ | refine below_tr ?_ (by assumption))) <;> (first | omega | (simp; done) | (simp; omega)))

def atL (x : Ln) (h : Int) : (Int × Int) × Int := if vldL x.1 x.2.1 x.2.2 = true then (if wn h 0 200000 = true then ((gN (x.1 + x.2.1 * h) x.2.2, gD (x.1 + x.2.1 * h) x.2.2), 0) else ((0, 0), 7)) else ((0, 0), 1)
theorem vld_in {a b d : Int} (h : vldL a b d = true) : inB a b d = true := by unfold vldL at h; rw [Bool.and_eq_true] at h; exact h.1
set_option maxHeartbeats 1000000 in
set_option maxRecDepth 20000 in
theorem p_At (a b d : Int) (h : Int) (w : World) :
    Calls Try.prog 25 #[lineV a b d, .int .i64 h] w fun e w' => e = .returned (.tuple #[frV (atL (a, b, d) h).1, .int .i64 (atL (a, b, d) h).2]) ∧ Below w.heap.size w w' := by
  cases hv : vldL a b d
  · rw [show atL (a, b, d) h = ((0, 0), 1) by simp [atL, hv]]
    go_enter Try.func25, Try.ntmps25
    go_wp2_with (go_at_call 23; ((with_reducible refine (calls_bool hv (p_validLine a b d _)).mono ?_); rintro e w1 ⟨rfl, hb1⟩; obtain ⟨hc1, hf1⟩ := bcell hb1; have hz1 := hb1.size; (try simp [sz_drew, sz_drewN] at hz1); (try simp only [sz_drew, sz_drewN] at hc1 hf1); have z1_0 : w.heap.size < w1.heap.size := (by omega); have z1_1 : w.heap.size + 1 < w1.heap.size := (by omega)))
    (refine bodyPost_ret (v := .tuple #[.agg #[.int .i64 0, .int .i64 0], .int .i64 1]) (by simp [results, Try.results25, go_sem, *]) rfl ⟨rfl, ?_⟩; (repeat' (first | assumption | exact below_refl _ | refine bl_alloc ?_ _ | refine Below.setCell ?_ ?_ _ | refine below_draw ?_ | refine below_drewN ?_ _ | refine below_tr ?_ (by assumption))) <;> (first | omega | (simp; done) | (simp; omega)))
  · cases hw : wn h 0 200000
    · rw [show atL (a, b, d) h = ((0, 0), 7) by simp [atL, hv, hw]]
      go_enter Try.func25, Try.ntmps25
      go_wp2_with (first
        | (go_at_call 23; ((with_reducible refine (calls_bool hv (p_validLine a b d _)).mono ?_); rintro e w1 ⟨rfl, hb1⟩; obtain ⟨hc1, hf1⟩ := bcell hb1; have hz1 := hb1.size; (try simp [sz_drew, sz_drewN] at hz1); (try simp only [sz_drew, sz_drewN] at hc1 hf1); have z1_0 : w.heap.size < w1.heap.size := (by omega); have z1_1 : w.heap.size + 1 < w1.heap.size := (by omega)))
        | (go_at_call 65; ((with_reducible refine (calls_bool hw (p_within h _ _ _)).mono ?_); rintro e w' ⟨rfl, rfl⟩)))
      (refine bodyPost_ret (v := .tuple #[.agg #[.int .i64 0, .int .i64 0], .int .i64 7]) (by simp [results, Try.results25, go_sem, *]) rfl ⟨rfl, ?_⟩; (repeat' (first | assumption | exact below_refl _ | refine bl_alloc ?_ _ | refine Below.setCell ?_ ?_ _ | refine below_draw ?_ | refine below_drewN ?_ _ | refine below_tr ?_ (by assumption))) <;> (first | omega | (simp; done) | (simp; omega)))
    · rw [show atL (a, b, d) h = ((gN (a + b * h) d, gD (a + b * h) d), 0) by simp [atL, hv, hw]]
      obtain ⟨a0, a1, b0, b1, d0, d1⟩ := lb_of (vld_in hv)
      have hh := wn_iff.1 hw
      have n := mul_bd (a := b) (b := h) (A := 1000000000000) (B := 200000) (by omega) b1 (by omega) hh.2
      obtain ⟨n0, n1⟩ := n
      obtain ⟨hh0, hh1⟩ := hh
      have H := Lib.hid (fun W => p_lowest (a + b * h) d W ⟨by omega, by omega⟩ ⟨by omega, by omega⟩ (by omega))
      go_enter Try.func25, Try.ntmps25
      go_wp2_with (first
        | (go_at_call 23; ((with_reducible refine (calls_bool hv (p_validLine a b d _)).mono ?_); rintro e w1 ⟨rfl, hb1⟩; obtain ⟨hc1, hf1⟩ := bcell hb1; have hz1 := hb1.size; (try simp [sz_drew, sz_drewN] at hz1); (try simp only [sz_drew, sz_drewN] at hc1 hf1); have z1_0 : w.heap.size < w1.heap.size := (by omega); have z1_1 : w.heap.size + 1 < w1.heap.size := (by omega)))
        | (go_at_call 65; ((with_reducible refine (calls_bool hw (p_within h _ _ _)).mono ?_); rintro e w' ⟨rfl, rfl⟩))
        | (go_at_call 64; ((with_reducible refine (H.out _).mono ?_); rintro e w2 ⟨rfl, hb2⟩; obtain ⟨hc2, hf2⟩ := bcell hb2; have hz2 := hb2.size; (try simp [sz_drew, sz_drewN] at hz2); (try simp only [sz_drew, sz_drewN] at hc2 hf2); have z2_0 : w.heap.size < w2.heap.size := (by omega); have z2_1 : w.heap.size + 1 < w2.heap.size := (by omega))))
      (refine bodyPost_ret (v := .tuple #[.agg #[.int .i64 (gN (a + b * h) d), .int .i64 (gD (a + b * h) d)], .int .i64 0]) (by simp [results, Try.results25, go_sem, *]) rfl ⟨rfl, ?_⟩; (repeat' (first | assumption | exact below_refl _ | refine bl_alloc ?_ _ | refine Below.setCell ?_ ?_ _ | refine below_draw ?_ | refine below_drewN ?_ _ | refine below_tr ?_ (by assumption))) <;> (first | omega | (simp; done) | (simp; omega)))
set_option maxHeartbeats 1000000 in
set_option maxRecDepth 20000 in
theorem r_At (a b d : Int) (h : Int) (w : World) :
    Calls Try.prog 26 #[lineV a b d, .int .i64 h] w fun e w' => e = .returned (.tuple #[frV (atL (a, b, d) h).1, .int .i64 (atL (a, b, d) h).2]) ∧ Below w.heap.size w w' := by
  cases hv : vldL a b d
  · rw [show atL (a, b, d) h = ((0, 0), 1) by simp [atL, hv]]
    go_enter Try.func26, Try.ntmps26
    go_wp2_with (go_at_call 24; ((with_reducible refine (calls_bool hv (r_validLine a b d _)).mono ?_); rintro e w1 ⟨rfl, hb1⟩; obtain ⟨hc1, hf1⟩ := bcell hb1; have hz1 := hb1.size; (try simp [sz_drew, sz_drewN] at hz1); (try simp only [sz_drew, sz_drewN] at hc1 hf1); have z1_0 : w.heap.size < w1.heap.size := (by omega); have z1_1 : w.heap.size + 1 < w1.heap.size := (by omega)))
    (refine bodyPost_ret (v := .tuple #[.agg #[.int .i64 0, .int .i64 0], .int .i64 1]) (by simp [results, Try.results26, go_sem, *]) rfl ⟨rfl, ?_⟩; (repeat' (first | assumption | exact below_refl _ | refine bl_alloc ?_ _ | refine Below.setCell ?_ ?_ _ | refine below_draw ?_ | refine below_drewN ?_ _ | refine below_tr ?_ (by assumption))) <;> (first | omega | (simp; done) | (simp; omega)))
  · cases hw : wn h 0 200000
    · rw [show atL (a, b, d) h = ((0, 0), 7) by simp [atL, hv, hw]]
      go_enter Try.func26, Try.ntmps26
      go_wp2_with (first
        | (go_at_call 24; ((with_reducible refine (calls_bool hv (r_validLine a b d _)).mono ?_); rintro e w1 ⟨rfl, hb1⟩; obtain ⟨hc1, hf1⟩ := bcell hb1; have hz1 := hb1.size; (try simp [sz_drew, sz_drewN] at hz1); (try simp only [sz_drew, sz_drewN] at hc1 hf1); have z1_0 : w.heap.size < w1.heap.size := (by omega); have z1_1 : w.heap.size + 1 < w1.heap.size := (by omega)))
        | (go_at_call 70; ((with_reducible refine (calls_bool hw (r_within h _ _ _)).mono ?_); rintro e w' ⟨rfl, rfl⟩)))
      (refine bodyPost_ret (v := .tuple #[.agg #[.int .i64 0, .int .i64 0], .int .i64 7]) (by simp [results, Try.results26, go_sem, *]) rfl ⟨rfl, ?_⟩; (repeat' (first | assumption | exact below_refl _ | refine bl_alloc ?_ _ | refine Below.setCell ?_ ?_ _ | refine below_draw ?_ | refine below_drewN ?_ _ | refine below_tr ?_ (by assumption))) <;> (first | omega | (simp; done) | (simp; omega)))
    · rw [show atL (a, b, d) h = ((gN (a + b * h) d, gD (a + b * h) d), 0) by simp [atL, hv, hw]]
      obtain ⟨a0, a1, b0, b1, d0, d1⟩ := lb_of (vld_in hv)
      have hh := wn_iff.1 hw
      have n := mul_bd (a := b) (b := h) (A := 1000000000000) (B := 200000) (by omega) b1 (by omega) hh.2
      obtain ⟨n0, n1⟩ := n
      obtain ⟨hh0, hh1⟩ := hh
      have H := Lib.hid (fun W => r_lowest (a + b * h) d W ⟨by omega, by omega⟩ ⟨by omega, by omega⟩ (by omega))
      go_enter Try.func26, Try.ntmps26
      go_wp2_with (first
        | (go_at_call 24; ((with_reducible refine (calls_bool hv (r_validLine a b d _)).mono ?_); rintro e w1 ⟨rfl, hb1⟩; obtain ⟨hc1, hf1⟩ := bcell hb1; have hz1 := hb1.size; (try simp [sz_drew, sz_drewN] at hz1); (try simp only [sz_drew, sz_drewN] at hc1 hf1); have z1_0 : w.heap.size < w1.heap.size := (by omega); have z1_1 : w.heap.size + 1 < w1.heap.size := (by omega)))
        | (go_at_call 70; ((with_reducible refine (calls_bool hw (r_within h _ _ _)).mono ?_); rintro e w' ⟨rfl, rfl⟩))
        | (go_at_call 71; ((with_reducible refine (H.out _).mono ?_); rintro e w2 ⟨rfl, hb2⟩; obtain ⟨hc2, hf2⟩ := bcell hb2; have hz2 := hb2.size; (try simp [sz_drew, sz_drewN] at hz2); (try simp only [sz_drew, sz_drewN] at hc2 hf2); have z2_0 : w.heap.size < w2.heap.size := (by omega); have z2_1 : w.heap.size + 1 < w2.heap.size := (by omega))))
      (refine bodyPost_ret (v := .tuple #[.agg #[.int .i64 (gN (a + b * h) d), .int .i64 (gD (a + b * h) d)], .int .i64 0]) (by simp [results, Try.results26, go_sem, *]) rfl ⟨rfl, ?_⟩; (repeat' (first | assumption | exact below_refl _ | refine bl_alloc ?_ _ | refine Below.setCell ?_ ?_ _ | refine below_draw ?_ | refine below_drewN ?_ _ | refine below_tr ?_ (by assumption))) <;> (first | omega | (simp; done) | (simp; omega)))
end Go.Proofs.Ytohbejdfaecghaa
