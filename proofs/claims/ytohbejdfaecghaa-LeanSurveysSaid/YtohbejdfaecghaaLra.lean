/- Lean: the points of a survey, by both. -/
import Derived.Test.YtohbejdfaecghaaOwn
import Derived.Test.YtohbejdfaecghaaLpa
import Derived.Test.YtohbejdfaecghaaLpb
import Derived.Test.YtohbejdfaecghaaLvc
import Derived.Deep.RegionHeld3
import Derived.Deep.AppendLies
import Derived.StillTailTactics
set_option linter.unusedSimpArgs false
set_option linter.unusedVariables false
namespace Go.Proofs.Ytohbejdfaecghaa
open Go.RowKit

def ptsL (f : Mk → Int) (l : List Mk) : List Pt := l.map fun m => ⟨m.h, f m⟩
def ptsE (l : List Mk) : Int := if vldM l then 0 else 1
theorem pts_step {f : Mk → Int} {l : List Mk} {k : Nat} {m : Mk} (h : l[k]? = some m) : ptsL f (l.take (k + 1)) = ptsL f (l.take k) ++ [⟨m.h, f m⟩] := by
  unfold ptsL; rw [List.take_add_one, h]; simp
theorem pts_len (f : Mk → Int) (l : List Mk) : (ptsL f l).length = l.length := by simp [ptsL]
/-- what East and North give back -/
def GotP (f : Mk → Int) (w' : World) (v : Value) (l : List Mk) : Prop := ∃ A c, v = .slice A (if vldM l = true then ptsL f l else []).length c ∧ Rd Pt.cs 2 w' A (if vldM l = true then ptsL f l else [])
theorem gotP_no {f : Mk → Int} {w' : World} {l : List Mk} (h : vldM l = false) : GotP f w' (.slice none 0 0) l := by
  unfold GotP; rw [h]; exact ⟨none, 0, rfl, Rd.nil_⟩
theorem gotP_yes {f : Mk → Int} {w' : World} {v : Value} {l : List Mk} {base : Nat} {e : TypeId} (h : vldM l = true) (ho : w'.ownsRow base e 2 v (ptsL f l).length (fl Pt.cs (ptsL f l))) : GotP f w' v l := by
  unfold GotP; rw [h]; exact own_rd Pt.cs_len ho
theorem vldM_len' {l : List Mk} (h : vldM l = true) : 1 ≤ l.length ∧ l.length ≤ 40 := by
  unfold vldM at h
  rw [Bool.and_eq_true, wn_iff] at h
  omega
theorem p_east (m : Mk) (w : World) : Calls Try.prog 83 #[.agg #[.int .i64 m.h, .int .i64 m.e, .int .i64 m.n]] w fun e w' => e = .returned (.int .i64 m.e) ∧ Below w.heap.size w w' := by
  go_enter Try.func83, Try.ntmps83
  go_wp2
  go_ret
  exact ⟨rfl, by (repeat' (first | assumption | exact below_refl _ | refine bl_alloc ?_ _ | refine Below.setCell ?_ ?_ _ | refine below_draw ?_ | refine below_drewN ?_ _ | refine below_tr ?_ (by assumption))) <;> (first | omega | (simp; done) | (simp; omega))⟩
theorem p_north (m : Mk) (w : World) : Calls Try.prog 84 #[.agg #[.int .i64 m.h, .int .i64 m.e, .int .i64 m.n]] w fun e w' => e = .returned (.int .i64 m.n) ∧ Below w.heap.size w w' := by
  go_enter Try.func84, Try.ntmps84
  go_wp2
  go_ret
  exact ⟨rfl, by (repeat' (first | assumption | exact below_refl _ | refine bl_alloc ?_ _ | refine Below.setCell ?_ ?_ _ | refine below_draw ?_ | refine below_drewN ?_ _ | refine below_tr ?_ (by assumption))) <;> (first | omega | (simp; done) | (simp; omega))⟩



set_option maxHeartbeats 4000000 in
set_option maxRecDepth 20000 in
theorem p_points_east (A : Option Addr) (l : List Mk) (c : Nat) (w : World) (hl : l.length ≤ 100000) (hR : Rd Mk.cs 3 w A l) :
    Calls Try.prog 82 #[.slice A l.length c, .func (.func 83) #[] #[]] w fun e w' => ∃ v, e = .returned (.tuple #[v, .int .i64 (ptsE l)]) ∧ GotP (fun m => m.e) w' v l ∧ Below w.heap.size w w' := by
  have HV := Lib.hid (fun W (h : Below w.heap.size w W) => p_validM A l c W hl (hR.on h))
  cases hv : vldM l
  · have HE := Lib.hid (show ptsE l = 1 by simp [ptsE, hv])
    go_enter Try.func82, Try.ntmps82
    go_wp2_with (go_at_call 44; ((with_reducible refine (calls_bool hv (HV.out _ (below_refl _))).mono ?_); rintro e w1 ⟨rfl, hb1⟩; obtain ⟨hc1, hf1⟩ := bcell hb1; have hz1 := hb1.size; (try simp [sz_drew, sz_drewN] at hz1); (try simp only [sz_drew, sz_drewN] at hc1 hf1)))
    go_ret2
    exact ⟨_, by rw [HE.out]; rfl, gotP_no hv, by (repeat' (first | assumption | exact below_refl _ | refine bl_alloc ?_ _ | refine Below.setCell ?_ ?_ _ | refine below_draw ?_ | refine below_drewN ?_ _ | refine below_tr ?_ (by assumption))) <;> (first | omega | (simp; done) | (simp; omega))⟩
  · have HE := Lib.hid (show ptsE l = 0 by simp [ptsE, hv])
    obtain ⟨h1, h2⟩ := vldM_len' hv
    obtain ⟨i0, hi, hi1, hi2, hi3⟩ := info_point
    go_enter Try.func82, Try.ntmps82
    go_wp2_with ((go_at_call 44; ((with_reducible refine (calls_bool hv (HV.out _ (below_refl _))).mono ?_); rintro e w1 ⟨rfl, hb1⟩; obtain ⟨hc1, hf1⟩ := bcell hb1; have hz1 := hb1.size; (try simp [sz_drew, sz_drewN] at hz1); (try simp only [sz_drew, sz_drewN] at hc1 hf1))); have B1 : Below w.heap.size w w1 := (by (repeat' (first | assumption | exact below_refl _ | refine bl_alloc ?_ _ | refine Below.setCell ?_ ?_ _ | refine below_draw ?_ | refine below_drewN ?_ _ | refine below_tr ?_ (by assumption))) <;> (first | omega | (simp; done) | (simp; omega))))
    go_loopw [6, 14] (fun v i wr => ∃ k : Nat, k ≤ l.length ∧ i = .int .i64 k ∧ Below w.heap.size w wr ∧ wr.ownsRow w.heap.size 28 2 v k (fl Pt.cs (ptsL (fun m => m.e) (l.take k)))) (fun _ i _ => l.length - (intOf i).toNat)
    case atStart => exact ⟨0, by omega, rfl, B1, by simpa [ptsL, fl] using World.ownsRow_nil w1 _ _ _⟩
    case round =>
      obtain ⟨k, hk, rfl, hbw, hown⟩ := hrel
      obtain ⟨ad, cp, rfl⟩ := own_slice hown
      by_cases hlt : k < l.length
      · have k0 : (0 : Int) ≤ (k : Int) := Int.natCast_nonneg _
        have k1 : (k : Int) < (l.length : Int) := by omega
        obtain ⟨m, ab, off, hx, rfl, hab, c0, c1, c2⟩ := rdM (hR.on hbw) hlt
        have HST := Lib.hid (pts_step (f := fun m => m.e) hx)
        have hwn : w.heap.size ≤ wr.heap.size := hbw.size
        have hge := fun b hb => own_ge hown b hb
        clear hx
        have HGE := Lib.hid hge
        clear hge
        go_wp2_with (fail)
        refine wp_world ?_
        intro W1 hW1
        have bW1 : Below w.heap.size w W1 := by rw [hW1]; (repeat' (first | assumption | exact below_refl _ | refine bl_alloc ?_ _ | refine Below.setCell ?_ ?_ _ | refine below_draw ?_ | refine below_drewN ?_ _ | refine below_tr ?_ (by assumption))) <;> (first | omega | (simp; done) | (simp; omega))
        have own1 : W1.ownsRow w.heap.size 28 2 (.slice ad k cp) k (fl Pt.cs (ptsL (fun m => m.e) (l.take k))) := by rw [hW1]; exact hown.alloc _
        have gz : wr.heap.size < W1.heap.size := by rw [hW1]; simp
        have g0 : W1.cell? ⟨wr.heap.size, 0, none⟩ = some (.int .i64 m.h) := by rw [hW1]; go_simp
        have g1 : W1.cell? ⟨wr.heap.size, 1, none⟩ = some (.int .i64 m.e) := by rw [hW1]; go_simp
        have g2 : W1.cell? ⟨wr.heap.size, 2, none⟩ = some (.int .i64 m.n) := by rw [hW1]; go_simp
        clear hW1 c0 c1 c2
        go_region_held3 (fun w' => w'.cell? ⟨wr.heap.size, 0, none⟩ = some (.int .i64 m.h) ∧ w'.cell? ⟨wr.heap.size, 1, none⟩ = some (.int .i64 m.e) ∧ w'.cell? ⟨wr.heap.size, 2, none⟩ = some (.int .i64 m.n))
          ((first | assumption | (refine ⟨?_, ?_, ?_⟩ <;> first | assumption | (go_simp; done) | exact World.grownBy.cell ‹World.grownBy _ _ _› (by go_simp) (fun hb => by have := (HGE.out _ hb.symm).2; simp at this))))
          (first
            | (go_at_call 83; ((with_reducible refine (p_east m _).mono ?_); rintro e w3 ⟨rfl, hb3⟩; obtain ⟨hc3, hf3⟩ := bcell hb3; have hz3 := hb3.size; (try simp [sz_drew, sz_drewN] at hz3); have own3 := own_on (own_drew own1) hb3; have bW3 : Below w.heap.size w w3 := (by (repeat' (first | assumption | exact below_refl _ | refine bl_alloc ?_ _ | refine Below.setCell ?_ ?_ _ | refine below_draw ?_ | refine below_drewN ?_ _ | refine below_tr ?_ (by assumption))) <;> (first | omega | (simp; done) | (simp; omega))); have y3 : wr.heap.size < w3.heap.size := (by omega); have k3a : w3.cell? ⟨wr.heap.size, 0, none⟩ = some (.int .i64 m.h) := (hc3 _ 0 gz).trans g0; have k3b : w3.cell? ⟨wr.heap.size, 1, none⟩ = some (.int .i64 m.e) := (hc3 _ 1 gz).trans g1; have k3c : w3.cell? ⟨wr.heap.size, 2, none⟩ = some (.int .i64 m.n) := (hc3 _ 2 gz).trans g2; clear hc3 hf3))
            | ((refine step_append_lies _ (by rfl) _ _ _ (by rfl) w.heap.size 28 i0 _ 2 16 Try.underlying42 hi hi1 hi2 hi3 rfl (by omega) _ k (fl Pt.cs (ptsL (fun m => m.e) (l.take k))) (by rfl) (own3.alloc _) ⟨w3.heap.size, 0, none⟩ 1 1 [.int .i64 m.h, .int .i64 m.e] (by rfl) (by rfl) (cells_new _ _ _) (fun u hu => by simp at hu; rcases hu with rfl | rfl <;> rfl) (by omega) (by unfold maxLen; omega) (by omega) (by first | (simp; omega) | simp) _ rfl ?_; intro gg cap w4 hown4 hgrow hat hlt4)))
        all_goals
          go_wp2
          go_roundw
          case rel => exact ⟨k + 1, by omega, by go_num, bl_app bW3 own3 hgrow (Nat.le_refl _) (by omega), by rw [HST.out, fl_snoc]; exact hown4⟩
          case measure => simp [intOf]; omega
      · obtain rfl : k = l.length := by omega
        rw [List.take_length] at hown
        have HOWN := Lib.hid hown
        clear hown
        go_wp2
        go_ret2
        exact ⟨_, by rw [HE.out]; rfl, gotP_yes hv (by rw [pts_len]; exact HOWN.out), hbw⟩
theorem p_East (A : Option Addr) (l : List Mk) (c : Nat) (w : World) (hl : l.length ≤ 100000) (hR : Rd Mk.cs 3 w A l) :
    Calls Try.prog 41 #[.slice A l.length c] w fun e w' => ∃ v, e = .returned (.tuple #[v, .int .i64 (ptsE l)]) ∧ GotP (fun m => m.e) w' v l ∧ Below w.heap.size w w' := by
  have HP := Lib.hid (p_points_east A l c w hl hR)
  go_enter Try.func41, Try.ntmps41
  go_wp2_with (go_at_call 82; ((with_reducible refine HP.out.mono ?_); rintro e w1 ⟨v1, rfl, ho1, hb1⟩))
  go_ret2
  exact ⟨_, rfl, ho1, hb1⟩

set_option maxHeartbeats 4000000 in
set_option maxRecDepth 20000 in
theorem p_points_north (A : Option Addr) (l : List Mk) (c : Nat) (w : World) (hl : l.length ≤ 100000) (hR : Rd Mk.cs 3 w A l) :
    Calls Try.prog 82 #[.slice A l.length c, .func (.func 84) #[] #[]] w fun e w' => ∃ v, e = .returned (.tuple #[v, .int .i64 (ptsE l)]) ∧ GotP (fun m => m.n) w' v l ∧ Below w.heap.size w w' := by
  have HV := Lib.hid (fun W (h : Below w.heap.size w W) => p_validM A l c W hl (hR.on h))
  cases hv : vldM l
  · have HE := Lib.hid (show ptsE l = 1 by simp [ptsE, hv])
    go_enter Try.func82, Try.ntmps82
    go_wp2_with (go_at_call 44; ((with_reducible refine (calls_bool hv (HV.out _ (below_refl _))).mono ?_); rintro e w1 ⟨rfl, hb1⟩; obtain ⟨hc1, hf1⟩ := bcell hb1; have hz1 := hb1.size; (try simp [sz_drew, sz_drewN] at hz1); (try simp only [sz_drew, sz_drewN] at hc1 hf1)))
    go_ret2
    exact ⟨_, by rw [HE.out]; rfl, gotP_no hv, by (repeat' (first | assumption | exact below_refl _ | refine bl_alloc ?_ _ | refine Below.setCell ?_ ?_ _ | refine below_draw ?_ | refine below_drewN ?_ _ | refine below_tr ?_ (by assumption))) <;> (first | omega | (simp; done) | (simp; omega))⟩
  · have HE := Lib.hid (show ptsE l = 0 by simp [ptsE, hv])
    obtain ⟨h1, h2⟩ := vldM_len' hv
    obtain ⟨i0, hi, hi1, hi2, hi3⟩ := info_point
    go_enter Try.func82, Try.ntmps82
    go_wp2_with ((go_at_call 44; ((with_reducible refine (calls_bool hv (HV.out _ (below_refl _))).mono ?_); rintro e w1 ⟨rfl, hb1⟩; obtain ⟨hc1, hf1⟩ := bcell hb1; have hz1 := hb1.size; (try simp [sz_drew, sz_drewN] at hz1); (try simp only [sz_drew, sz_drewN] at hc1 hf1))); have B1 : Below w.heap.size w w1 := (by (repeat' (first | assumption | exact below_refl _ | refine bl_alloc ?_ _ | refine Below.setCell ?_ ?_ _ | refine below_draw ?_ | refine below_drewN ?_ _ | refine below_tr ?_ (by assumption))) <;> (first | omega | (simp; done) | (simp; omega))))
    go_loopw [6, 14] (fun v i wr => ∃ k : Nat, k ≤ l.length ∧ i = .int .i64 k ∧ Below w.heap.size w wr ∧ wr.ownsRow w.heap.size 28 2 v k (fl Pt.cs (ptsL (fun m => m.n) (l.take k)))) (fun _ i _ => l.length - (intOf i).toNat)
    case atStart => exact ⟨0, by omega, rfl, B1, by simpa [ptsL, fl] using World.ownsRow_nil w1 _ _ _⟩
    case round =>
      obtain ⟨k, hk, rfl, hbw, hown⟩ := hrel
      obtain ⟨ad, cp, rfl⟩ := own_slice hown
      by_cases hlt : k < l.length
      · have k0 : (0 : Int) ≤ (k : Int) := Int.natCast_nonneg _
        have k1 : (k : Int) < (l.length : Int) := by omega
        obtain ⟨m, ab, off, hx, rfl, hab, c0, c1, c2⟩ := rdM (hR.on hbw) hlt
        have HST := Lib.hid (pts_step (f := fun m => m.n) hx)
        have hwn : w.heap.size ≤ wr.heap.size := hbw.size
        have hge := fun b hb => own_ge hown b hb
        clear hx
        have HGE := Lib.hid hge
        clear hge
        go_wp2_with (fail)
        refine wp_world ?_
        intro W1 hW1
        have bW1 : Below w.heap.size w W1 := by rw [hW1]; (repeat' (first | assumption | exact below_refl _ | refine bl_alloc ?_ _ | refine Below.setCell ?_ ?_ _ | refine below_draw ?_ | refine below_drewN ?_ _ | refine below_tr ?_ (by assumption))) <;> (first | omega | (simp; done) | (simp; omega))
        have own1 : W1.ownsRow w.heap.size 28 2 (.slice ad k cp) k (fl Pt.cs (ptsL (fun m => m.n) (l.take k))) := by rw [hW1]; exact hown.alloc _
        have gz : wr.heap.size < W1.heap.size := by rw [hW1]; simp
        have g0 : W1.cell? ⟨wr.heap.size, 0, none⟩ = some (.int .i64 m.h) := by rw [hW1]; go_simp
        have g1 : W1.cell? ⟨wr.heap.size, 1, none⟩ = some (.int .i64 m.e) := by rw [hW1]; go_simp
        have g2 : W1.cell? ⟨wr.heap.size, 2, none⟩ = some (.int .i64 m.n) := by rw [hW1]; go_simp
        clear hW1 c0 c1 c2
        go_region_held3 (fun w' => w'.cell? ⟨wr.heap.size, 0, none⟩ = some (.int .i64 m.h) ∧ w'.cell? ⟨wr.heap.size, 1, none⟩ = some (.int .i64 m.e) ∧ w'.cell? ⟨wr.heap.size, 2, none⟩ = some (.int .i64 m.n))
          ((first | assumption | (refine ⟨?_, ?_, ?_⟩ <;> first | assumption | (go_simp; done) | exact World.grownBy.cell ‹World.grownBy _ _ _› (by go_simp) (fun hb => by have := (HGE.out _ hb.symm).2; simp at this))))
          (first
            | (go_at_call 84; ((with_reducible refine (p_north m _).mono ?_); rintro e w3 ⟨rfl, hb3⟩; obtain ⟨hc3, hf3⟩ := bcell hb3; have hz3 := hb3.size; (try simp [sz_drew, sz_drewN] at hz3); have own3 := own_on (own_drew own1) hb3; have bW3 : Below w.heap.size w w3 := (by (repeat' (first | assumption | exact below_refl _ | refine bl_alloc ?_ _ | refine Below.setCell ?_ ?_ _ | refine below_draw ?_ | refine below_drewN ?_ _ | refine below_tr ?_ (by assumption))) <;> (first | omega | (simp; done) | (simp; omega))); have y3 : wr.heap.size < w3.heap.size := (by omega); have k3a : w3.cell? ⟨wr.heap.size, 0, none⟩ = some (.int .i64 m.h) := (hc3 _ 0 gz).trans g0; have k3b : w3.cell? ⟨wr.heap.size, 1, none⟩ = some (.int .i64 m.e) := (hc3 _ 1 gz).trans g1; have k3c : w3.cell? ⟨wr.heap.size, 2, none⟩ = some (.int .i64 m.n) := (hc3 _ 2 gz).trans g2; clear hc3 hf3))
            | ((refine step_append_lies _ (by rfl) _ _ _ (by rfl) w.heap.size 28 i0 _ 2 16 Try.underlying42 hi hi1 hi2 hi3 rfl (by omega) _ k (fl Pt.cs (ptsL (fun m => m.n) (l.take k))) (by rfl) (own3.alloc _) ⟨w3.heap.size, 0, none⟩ 1 1 [.int .i64 m.h, .int .i64 m.n] (by rfl) (by rfl) (cells_new _ _ _) (fun u hu => by simp at hu; rcases hu with rfl | rfl <;> rfl) (by omega) (by unfold maxLen; omega) (by omega) (by first | (simp; omega) | simp) _ rfl ?_; intro gg cap w4 hown4 hgrow hat hlt4)))
        all_goals
          go_wp2
          go_roundw
          case rel => exact ⟨k + 1, by omega, by go_num, bl_app bW3 own3 hgrow (Nat.le_refl _) (by omega), by rw [HST.out, fl_snoc]; exact hown4⟩
          case measure => simp [intOf]; omega
      · obtain rfl : k = l.length := by omega
        rw [List.take_length] at hown
        have HOWN := Lib.hid hown
        clear hown
        go_wp2
        go_ret2
        exact ⟨_, by rw [HE.out]; rfl, gotP_yes hv (by rw [pts_len]; exact HOWN.out), hbw⟩
theorem p_North (A : Option Addr) (l : List Mk) (c : Nat) (w : World) (hl : l.length ≤ 100000) (hR : Rd Mk.cs 3 w A l) :
    Calls Try.prog 46 #[.slice A l.length c] w fun e w' => ∃ v, e = .returned (.tuple #[v, .int .i64 (ptsE l)]) ∧ GotP (fun m => m.n) w' v l ∧ Below w.heap.size w w' := by
  have HP := Lib.hid (p_points_north A l c w hl hR)
  go_enter Try.func46, Try.ntmps46
  go_wp2_with (go_at_call 82; ((with_reducible refine HP.out.mono ?_); rintro e w1 ⟨v1, rfl, ho1, hb1⟩))
  go_ret2
  exact ⟨_, rfl, ho1, hb1⟩

set_option maxHeartbeats 2000000 in
set_option maxRecDepth 20000 in
theorem r_East (A : Option Addr) (l : List Mk) (c : Nat) (w : World) (hl : l.length ≤ 100000) (hR : Rd Mk.cs 3 w A l) :
    Calls Try.prog 42 #[.slice A l.length c] w fun e w' => ∃ v, e = .returned (.tuple #[v, .int .i64 (ptsE l)]) ∧ GotP (fun m => m.e) w' v l ∧ Below w.heap.size w w' := by
  have HV := Lib.hid (fun W (h : Below w.heap.size w W) => r_validM A l c W hl (hR.on h))
  cases hv : vldM l
  · have HE := Lib.hid (show ptsE l = 1 by simp [ptsE, hv])
    go_enter Try.func42, Try.ntmps42
    go_wp2_with (go_at_call 45; ((with_reducible refine (calls_bool hv (HV.out _ (below_refl _))).mono ?_); rintro e w1 ⟨rfl, hb1⟩; obtain ⟨hc1, hf1⟩ := bcell hb1; have hz1 := hb1.size; (try simp [sz_drew, sz_drewN] at hz1); (try simp only [sz_drew, sz_drewN] at hc1 hf1)))
    go_ret2
    exact ⟨_, by rw [HE.out]; rfl, gotP_no hv, by (repeat' (first | assumption | exact below_refl _ | refine bl_alloc ?_ _ | refine Below.setCell ?_ ?_ _ | refine below_draw ?_ | refine below_drewN ?_ _ | refine below_tr ?_ (by assumption))) <;> (first | omega | (simp; done) | (simp; omega))⟩
  · have HE := Lib.hid (show ptsE l = 0 by simp [ptsE, hv])
    obtain ⟨h1, h2⟩ := vldM_len' hv
    obtain ⟨i0, hi, hi1, hi2, hi3⟩ := info_point
    go_enter Try.func42, Try.ntmps42
    go_wp2_with ((go_at_call 45; ((with_reducible refine (calls_bool hv (HV.out _ (below_refl _))).mono ?_); rintro e w1 ⟨rfl, hb1⟩; obtain ⟨hc1, hf1⟩ := bcell hb1; have hz1 := hb1.size; (try simp [sz_drew, sz_drewN] at hz1); (try simp only [sz_drew, sz_drewN] at hc1 hf1))); have B1 : Below w.heap.size w w1 := (by (repeat' (first | assumption | exact below_refl _ | refine bl_alloc ?_ _ | refine Below.setCell ?_ ?_ _ | refine below_draw ?_ | refine below_drewN ?_ _ | refine below_tr ?_ (by assumption))) <;> (first | omega | (simp; done) | (simp; omega))))
    go_loopw [4, 5] (fun v i wr => ∃ k : Nat, k ≤ l.length ∧ i = .int .i64 k ∧ Below w.heap.size w wr ∧ wr.ownsRow w.heap.size 28 2 v k (fl Pt.cs (ptsL (fun m => m.e) (l.take k)))) (fun _ i _ => l.length - (intOf i).toNat)
    case atStart => exact ⟨0, by omega, rfl, B1, by simpa [ptsL, fl] using World.ownsRow_nil w1 _ _ _⟩
    case round =>
      obtain ⟨k, hk, rfl, hbw, hown⟩ := hrel
      obtain ⟨ad, cp, rfl⟩ := own_slice hown
      by_cases hlt : k < l.length
      · have k0 : (0 : Int) ≤ (k : Int) := Int.natCast_nonneg _
        have k1 : (k : Int) < (l.length : Int) := by omega
        obtain ⟨m, ab, off, hx, rfl, hab, c0, c1, c2⟩ := rdM (hR.on hbw) hlt
        have HST := Lib.hid (pts_step (f := fun m => m.e) hx)
        have hwn : w.heap.size ≤ wr.heap.size := hbw.size
        clear hx
        have HGE := Lib.hid (fun b hb => own_ge hown b hb)
        obtain ⟨_, _, _, _, ea, hab0, _⟩ := rdM hR hlt
        cases ea
        go_wp2_with (fail)
        go_region_held3 (fun w' => w'.cell? ⟨ab, off + k * 3, none⟩ = some (.int .i64 m.h) ∧ w'.cell? ⟨ab, off + k * 3 + 1, none⟩ = some (.int .i64 m.e) ∧ w'.cell? ⟨ab, off + k * 3 + 2, none⟩ = some (.int .i64 m.n))
          ((first | assumption | (refine ⟨?_, ?_, ?_⟩ <;> first | assumption | (go_simp; done) | exact World.grownBy.cell ‹World.grownBy _ _ _› (by go_simp) (fun hb => by have := (HGE.out _ hb.symm).1; simp at this; omega))))
          ((refine step_append_lies _ (by rfl) _ _ _ (by rfl) w.heap.size 28 i0 _ 2 16 Try.underlying42 hi hi1 hi2 hi3 rfl (by omega) _ k (fl Pt.cs (ptsL (fun m => m.e) (l.take k))) (by rfl) ((own_drew hown).alloc _) ⟨wr.heap.size, 0, none⟩ 1 1 [.int .i64 m.h, .int .i64 m.e] (by rfl) (by rfl) (cells_new _ _ _) (fun u hu => by simp at hu; rcases hu with rfl | rfl <;> rfl) (by omega) (by unfold maxLen; omega) (by omega) (by first | (simp; omega) | simp) _ rfl ?_; intro gg cap w4 hown4 hgrow hat hlt4))
        go_wp2
        go_roundw
        case rel => exact ⟨k + 1, by omega, by go_num, bl_app (below_draw hbw) (own_drew hown) hgrow (Nat.le_refl _) hwn, by rw [HST.out, fl_snoc]; exact hown4⟩
        case measure => simp [intOf]; omega
      · obtain rfl : k = l.length := by omega
        rw [List.take_length] at hown
        have HOWN := Lib.hid hown
        clear hown
        go_wp2
        go_ret2
        exact ⟨_, by rw [HE.out]; rfl, gotP_yes hv (by rw [pts_len]; exact HOWN.out), hbw⟩

set_option maxHeartbeats 2000000 in
set_option maxRecDepth 20000 in
theorem r_North (A : Option Addr) (l : List Mk) (c : Nat) (w : World) (hl : l.length ≤ 100000) (hR : Rd Mk.cs 3 w A l) :
    Calls Try.prog 47 #[.slice A l.length c] w fun e w' => ∃ v, e = .returned (.tuple #[v, .int .i64 (ptsE l)]) ∧ GotP (fun m => m.n) w' v l ∧ Below w.heap.size w w' := by
  have HV := Lib.hid (fun W (h : Below w.heap.size w W) => r_validM A l c W hl (hR.on h))
  cases hv : vldM l
  · have HE := Lib.hid (show ptsE l = 1 by simp [ptsE, hv])
    go_enter Try.func47, Try.ntmps47
    go_wp2_with (go_at_call 45; ((with_reducible refine (calls_bool hv (HV.out _ (below_refl _))).mono ?_); rintro e w1 ⟨rfl, hb1⟩; obtain ⟨hc1, hf1⟩ := bcell hb1; have hz1 := hb1.size; (try simp [sz_drew, sz_drewN] at hz1); (try simp only [sz_drew, sz_drewN] at hc1 hf1)))
    go_ret2
    exact ⟨_, by rw [HE.out]; rfl, gotP_no hv, by (repeat' (first | assumption | exact below_refl _ | refine bl_alloc ?_ _ | refine Below.setCell ?_ ?_ _ | refine below_draw ?_ | refine below_drewN ?_ _ | refine below_tr ?_ (by assumption))) <;> (first | omega | (simp; done) | (simp; omega))⟩
  · have HE := Lib.hid (show ptsE l = 0 by simp [ptsE, hv])
    obtain ⟨h1, h2⟩ := vldM_len' hv
    obtain ⟨i0, hi, hi1, hi2, hi3⟩ := info_point
    go_enter Try.func47, Try.ntmps47
    go_wp2_with ((go_at_call 45; ((with_reducible refine (calls_bool hv (HV.out _ (below_refl _))).mono ?_); rintro e w1 ⟨rfl, hb1⟩; obtain ⟨hc1, hf1⟩ := bcell hb1; have hz1 := hb1.size; (try simp [sz_drew, sz_drewN] at hz1); (try simp only [sz_drew, sz_drewN] at hc1 hf1))); have B1 : Below w.heap.size w w1 := (by (repeat' (first | assumption | exact below_refl _ | refine bl_alloc ?_ _ | refine Below.setCell ?_ ?_ _ | refine below_draw ?_ | refine below_drewN ?_ _ | refine below_tr ?_ (by assumption))) <;> (first | omega | (simp; done) | (simp; omega))))
    go_loopw [4, 5] (fun v i wr => ∃ k : Nat, k ≤ l.length ∧ i = .int .i64 k ∧ Below w.heap.size w wr ∧ wr.ownsRow w.heap.size 28 2 v k (fl Pt.cs (ptsL (fun m => m.n) (l.take k)))) (fun _ i _ => l.length - (intOf i).toNat)
    case atStart => exact ⟨0, by omega, rfl, B1, by simpa [ptsL, fl] using World.ownsRow_nil w1 _ _ _⟩
    case round =>
      obtain ⟨k, hk, rfl, hbw, hown⟩ := hrel
      obtain ⟨ad, cp, rfl⟩ := own_slice hown
      by_cases hlt : k < l.length
      · have k0 : (0 : Int) ≤ (k : Int) := Int.natCast_nonneg _
        have k1 : (k : Int) < (l.length : Int) := by omega
        obtain ⟨m, ab, off, hx, rfl, hab, c0, c1, c2⟩ := rdM (hR.on hbw) hlt
        have HST := Lib.hid (pts_step (f := fun m => m.n) hx)
        have hwn : w.heap.size ≤ wr.heap.size := hbw.size
        clear hx
        have HGE := Lib.hid (fun b hb => own_ge hown b hb)
        obtain ⟨_, _, _, _, ea, hab0, _⟩ := rdM hR hlt
        cases ea
        go_wp2_with (fail)
        go_region_held3 (fun w' => w'.cell? ⟨ab, off + k * 3, none⟩ = some (.int .i64 m.h) ∧ w'.cell? ⟨ab, off + k * 3 + 1, none⟩ = some (.int .i64 m.e) ∧ w'.cell? ⟨ab, off + k * 3 + 2, none⟩ = some (.int .i64 m.n))
          ((first | assumption | (refine ⟨?_, ?_, ?_⟩ <;> first | assumption | (go_simp; done) | exact World.grownBy.cell ‹World.grownBy _ _ _› (by go_simp) (fun hb => by have := (HGE.out _ hb.symm).1; simp at this; omega))))
          ((refine step_append_lies _ (by rfl) _ _ _ (by rfl) w.heap.size 28 i0 _ 2 16 Try.underlying42 hi hi1 hi2 hi3 rfl (by omega) _ k (fl Pt.cs (ptsL (fun m => m.n) (l.take k))) (by rfl) ((own_drew hown).alloc _) ⟨wr.heap.size, 0, none⟩ 1 1 [.int .i64 m.h, .int .i64 m.n] (by rfl) (by rfl) (cells_new _ _ _) (fun u hu => by simp at hu; rcases hu with rfl | rfl <;> rfl) (by omega) (by unfold maxLen; omega) (by omega) (by first | (simp; omega) | simp) _ rfl ?_; intro gg cap w4 hown4 hgrow hat hlt4))
        go_wp2
        go_roundw
        case rel => exact ⟨k + 1, by omega, by go_num, bl_app (below_draw hbw) (own_drew hown) hgrow (Nat.le_refl _) hwn, by rw [HST.out, fl_snoc]; exact hown4⟩
        case measure => simp [intOf]; omega
      · obtain rfl : k = l.length := by omega
        rw [List.take_length] at hown
        have HOWN := Lib.hid hown
        clear hown
        go_wp2
        go_ret2
        exact ⟨_, by rw [HE.out]; rfl, gotP_yes hv (by rw [pts_len]; exact HOWN.out), hbw⟩
end Go.Proofs.Ytohbejdfaecghaa
