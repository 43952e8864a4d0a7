/- Lean: Nearest and Bend by the program. -/
import Derived.Test.YtohbejdfaecghaaLpm
set_option linter.unusedSimpArgs false
set_option linter.unusedVariables false
namespace Go.Proofs.Ytohbejdfaecghaa
open Go.RowKit

set_option maxHeartbeats 1000000 in
set_option maxRecDepth 20000 in
theorem p_nearest_one (A : Option Addr) (l : List Pt) (c : Nat) (w : World) (hs : ∀ p ∈ l, SP p) (h1 : l.length = 1) (hR : Rd Pt.cs 2 w A l) :
    Calls Try.prog 79 #[.slice A l.length c] w fun e w' => e = .returned (lnV (nearP l)) ∧ Below w.heap.size w w' := by
  obtain ⟨p, ab, off, hx, rfl, hab, c0, c1⟩ := rdP hR (show 0 < l.length by omega)
  have hn : nearP l = mk3 p.x 0 1 := by unfold nearP; rw [if_pos h1, ptAt_of hx]
  obtain ⟨s0, s1, s2, s3⟩ := hs p (List.mem_of_getElem? hx)
  have H := Lib.hid (fun W => p_made p.x 0 1 W ⟨by omega, by omega⟩ ⟨by omega, by omega⟩ ⟨by omega, by omega⟩ (by omega))
  rw [hn]
  unfold mk3
  generalize m3 p.x 0 1 p.x = x0 at *
  generalize m3 p.x 0 1 0 = x1 at *
  generalize m3 p.x 0 1 1 = x2 at *
  have HL := Lib.hid h1
  have t1 : ((l.length : Int) == 1) = true := by simp; omega
  have t2 : (0 : Int) < (l.length : Int) := by omega
  have t3 : 0 < l.length := by omega
  have nb : ab ≠ w.heap.size := by omega
  rw [Nat.zero_mul, Nat.add_zero] at c0 c1
  clear hx hs h1 hR hn
  go_enter Try.func79, Try.ntmps79
  go_wp2_with (go_at_call 66; ((with_reducible refine (H.out _).mono ?_); rintro e w1 ⟨rfl, hb1⟩; obtain ⟨hc1, hf1⟩ := bcell hb1; have hz1 := hb1.size; (try simp [sz_drew, sz_drewN] at hz1); (try simp only [sz_drew, sz_drewN] at hc1 hf1); have z1_0 : w.heap.size < w1.heap.size := (by omega); have z1_1 : w.heap.size + 1 < w1.heap.size := (by omega)))
  (refine bodyPost_ret (v := lineV x0 x1 x2) (by simp [results, Try.results79, go_sem, *]) rfl ⟨rfl, ?_⟩; (repeat' (first | assumption | exact below_refl _ | refine bl_alloc ?_ _ | refine Below.setCell ?_ ?_ _ | refine below_draw ?_ | refine below_drewN ?_ _ | refine below_tr ?_ (by assumption))) <;> (first | omega | (simp; done) | (simp; omega)))
set_option maxHeartbeats 1000000 in
set_option maxRecDepth 20000 in
theorem p_nearest_two (A : Option Addr) (l : List Pt) (c : Nat) (w : World) (hv : vldP l = true) (h1 : l.length = 2) (hR : Rd Pt.cs 2 w A l) :
    Calls Try.prog 79 #[.slice A l.length c] w fun e w' => e = .returned (lnV (nearP l)) ∧ Below w.heap.size w w' := by
  obtain ⟨p, ab, off, hx, rfl, hab, c0, c1⟩ := rdP hR (show 0 < l.length by omega)
  obtain ⟨q, ab', off', hy, he, _, d0, d1⟩ := rdP hR (show 1 < l.length by omega)
  cases he
  have hn : nearP l = thr3 p q := by unfold nearP; rw [if_neg (by omega), if_pos h1, ptAt_of hx, ptAt_of hy]
  have sp := vld_sp hv p (List.mem_of_getElem? hx)
  have sq := vld_sp hv q (List.mem_of_getElem? hy)
  have hlt : p.h < q.h := by have := vld_lt hv 0 1 (by omega) (by omega); rwa [ptAt_of hx, ptAt_of hy] at this
  have H := Lib.hid (fun W => p_through_up p q W sp sq hlt)
  unfold mkL at H
  rw [hn]
  unfold thr3 mk3
  generalize m3 (thrA p q) (q.x - p.x) (q.h - p.h) (thrA p q) = x0 at *
  generalize m3 (thrA p q) (q.x - p.x) (q.h - p.h) (q.x - p.x) = x1 at *
  generalize m3 (thrA p q) (q.x - p.x) (q.h - p.h) (q.h - p.h) = x2 at *
  have HL := Lib.hid h1
  have t0 : ((l.length : Int) == 1) = false := by simp; omega
  have t1 : ((l.length : Int) == 2) = true := by simp; omega
  have t2 : (1 : Int) < (l.length : Int) := by omega
  have t3 : 1 < l.length := by omega
  have t4 : (0 : Int) < (l.length : Int) := by omega
  have t5 : 0 < l.length := by omega
  rw [Nat.zero_mul, Nat.add_zero] at c0 c1
  rw [Nat.one_mul] at d0 d1
  clear hx hy hv h1 hR hn sp sq hlt
  go_enter Try.func79, Try.ntmps79
  go_wp2_with (fail)
  refine wp_world ?_
  intro W1 hW1
  have bW1 : Below w.heap.size w W1 := by rw [hW1]; (repeat' (first | assumption | exact below_refl _ | refine bl_alloc ?_ _ | refine Below.setCell ?_ ?_ _ | refine below_draw ?_ | refine below_drewN ?_ _ | refine below_tr ?_ (by assumption))) <;> (first | omega | (simp; done) | (simp; omega))
  have gW1_0 : w.heap.size < W1.heap.size := by rw [hW1]; (first | assumption | (simp; done) | (simp; omega))
  have gW1_0_0 : W1.cell? ⟨w.heap.size, 0, none⟩ = some (.slice (some ⟨ab, off, none⟩) l.length c) := by rw [hW1]; go_simp
  have gW1_1 : w.heap.size + 1 < W1.heap.size := by rw [hW1]; (first | assumption | (simp; done) | (simp; omega))
  have gW1_1_0 : W1.cell? ⟨w.heap.size + 1, 0, none⟩ = some (.int .i64 0) := by rw [hW1]; go_simp
  have gW1_1_0f : W1.frozen? ⟨w.heap.size + 1, 0, none⟩ = false := by rw [hW1]; go_simp
  have gW1_1_1 : W1.cell? ⟨w.heap.size + 1, 1, none⟩ = some (.int .i64 0) := by rw [hW1]; go_simp
  have gW1_1_1f : W1.frozen? ⟨w.heap.size + 1, 1, none⟩ = false := by rw [hW1]; go_simp
  have gW1_1_2 : W1.cell? ⟨w.heap.size + 1, 2, none⟩ = some (.int .i64 0) := by rw [hW1]; go_simp
  have gW1_1_2f : W1.frozen? ⟨w.heap.size + 1, 2, none⟩ = false := by rw [hW1]; go_simp
  clear hW1
  have k0 : W1.cell? ⟨ab, off, none⟩ = some (.int .i64 p.h) := by rw [(bcell bW1).1 _ _ hab]; exact c0
  have k1 : W1.cell? ⟨ab, off + 1, none⟩ = some (.int .i64 p.x) := by rw [(bcell bW1).1 _ _ hab]; exact c1
  have k2 : W1.cell? ⟨ab, off + 2, none⟩ = some (.int .i64 q.h) := by rw [(bcell bW1).1 _ _ hab]; exact d0
  have k3 : W1.cell? ⟨ab, off + 2 + 1, none⟩ = some (.int .i64 q.x) := by rw [(bcell bW1).1 _ _ hab]; exact d1
  have gab : ab < W1.heap.size := Nat.lt_of_lt_of_le hab bW1.size
  have nab : ab ≠ w.heap.size + 1 := by omega
  have nw : w.heap.size ≠ w.heap.size + 1 := by omega
  clear c0 c1 d0 d1
  refine wp_region_noPanic ?_
  refine wp_region_held_drew (S := (fun w' => (∀ b o, b < W1.heap.size → b ≠ w.heap.size + 1 → w'.cell? ⟨b, o, none⟩ = W1.cell? ⟨b, o, none⟩) ∧ (∀ b o, b < W1.heap.size → w'.frozen? ⟨b, o, none⟩ = W1.frozen? ⟨b, o, none⟩) ∧ W1.heap.size ≤ w'.heap.size ∧ Below w.heap.size w w')) (by kernel_rfl) (kx_draw (kx_refl (by assumption))) (fun hS0 => ?_)
  refine wpAnyH_take (i := 0) (oi := { dst := some 20, op := _, type := _, pos := _, after := _, guard := none }) (v := ?gv1) rfl (by kernel_rfl) (by kernel_rfl) (by kernel_rfl) (fun _ _ _ h => h) (Or.inl ⟨by rfl, ?gy1⟩) (by assumption) ?_
  case gy1 => (intro w' hSw; go_simp; try with_reducible rfl)
  try simp only [Act.put, List.setIfInBounds_toArray, List.set_cons_zero, List.set_cons_succ]
  refine wpAnyH_take (i := 1) (oi := { dst := some 21, op := _, type := _, pos := _, after := _, guard := none }) (v := ?gv2) rfl (by kernel_rfl) (by kernel_rfl) (by kernel_rfl) (fun _ _ _ h => h) (Or.inl ⟨by rfl, ?gy2⟩) (by assumption) ?_
  case gy2 => (intro w' hSw; go_simp; try with_reducible rfl)
  try simp only [Act.put, List.setIfInBounds_toArray, List.set_cons_zero, List.set_cons_succ]
  refine wpAnyH_take (i := 2) (oi := { dst := some 22, op := _, type := _, pos := _, after := _, guard := none }) (v := ?gv3) rfl (by kernel_rfl) (by kernel_rfl) (by kernel_rfl) (fun _ _ _ h => h) (Or.inl ⟨by rfl, ?gy3⟩) (by assumption) ?_
  case gy3 => (intro w' hSw; go_simp; try with_reducible rfl)
  try simp only [Act.put, List.setIfInBounds_toArray, List.set_cons_zero, List.set_cons_succ]
  refine wpAnyH_take (i := 3) (oi := { dst := some 23, op := _, type := _, pos := _, after := _, guard := none }) (v := ?gv4) rfl (by kernel_rfl) (by kernel_rfl) (by kernel_rfl) (fun _ _ _ h => h) (Or.inl ⟨by rfl, ?gy4⟩) (by assumption) ?_
  case gy4 => (intro w' hSw; go_simp; try with_reducible rfl)
  try simp only [Act.put, List.setIfInBounds_toArray, List.set_cons_zero, List.set_cons_succ]
  refine wpAnyH_take (i := 4) (oi := { dst := some 24, op := _, type := _, pos := _, after := _, guard := none }) (v := ?gv5) rfl (by kernel_rfl) (by kernel_rfl) (by kernel_rfl) (fun _ _ _ h => h) (Or.inl ⟨by rfl, ?gy5⟩) (by assumption) ?_
  case gy5 => (intro w' hSw; go_simp; try with_reducible rfl)
  try simp only [Act.put, List.setIfInBounds_toArray, List.set_cons_zero, List.set_cons_succ]
  refine wpAnyH_take (i := 5) (oi := { dst := some 25, op := _, type := _, pos := _, after := _, guard := none }) (v := ?gv6) rfl (by kernel_rfl) (by kernel_rfl) (by kernel_rfl) (fun _ _ _ h => h) (Or.inl ⟨by rfl, ?gy6⟩) (by assumption) ?_
  case gy6 => (intro w' hSw; go_simp; try with_reducible rfl)
  try simp only [Act.put, List.setIfInBounds_toArray, List.set_cons_zero, List.set_cons_succ]
  refine wpAnyH_ready (rs := [6]) (by kernel_rfl) (by simp) ?_
  refine AllReadyH.cons rfl (fun K hK => ?_) AllReadyH.nil
  go_simp
  (go_at_call 61; ((with_reducible refine (H.out _).mono ?_); rintro e w3 ⟨rfl, hb3⟩; obtain ⟨hc3, hf3⟩ := bcell hb3; have hz3 := hb3.size; (try simp [sz_drew, sz_drewN] at hz3); (try simp only [sz_drew, sz_drewN] at hc3 hf3); have z3_0 : w.heap.size < w3.heap.size := (by omega); have z3_1 : w.heap.size + 1 < w3.heap.size := (by omega)))
  have r0 := (hc3 _ 0 gW1_1).trans gW1_1_0; have r1 := (hc3 _ 1 gW1_1).trans gW1_1_1; have r2 := (hc3 _ 2 gW1_1).trans gW1_1_2; have r3 := (hf3 _ 0 gW1_1).trans gW1_1_0f; have r4 := (hf3 _ 1 gW1_1).trans gW1_1_1f; have r5 := (hf3 _ 2 gW1_1).trans gW1_1_2f; clear hc3 hf3
  refine hK.out _ _ (by (((show Kx w W1 (w.heap.size + 1) _); (repeat' (first | assumption | exact kx_refl (by assumption) | refine kx_set ?_ ?_ | refine kx_draw ?_ | refine kx_step ?_ (by assumption))); (all_goals (first | omega | (simp; omega)))))) (fun hS1 => ?_)
  clear hK K
  try simp only [Act.put, List.setIfInBounds_toArray, List.set_cons_zero, List.set_cons_succ]
  refine wpAnyH_ready (rs := [7]) (by kernel_rfl) (by simp) ?_
  refine AllReadyH.cons rfl (fun K hK => ?_) AllReadyH.nil
  go_simp
  refine hK.out _ _ (by (((show Kx w W1 (w.heap.size + 1) _); (repeat' (first | assumption | exact kx_refl (by assumption) | refine kx_set ?_ ?_ | refine kx_draw ?_ | refine kx_step ?_ (by assumption))); (all_goals (first | omega | (simp; omega)))))) (fun hS2 => ?_)
  clear hK K
  try simp only [Act.put, List.setIfInBounds_toArray, List.set_cons_zero, List.set_cons_succ]
  refine wpAnyH_done (by kernel_rfl) (NoPanic.normal ?_) _
  go_wp2
  (refine bodyPost_ret (v := lineV x0 x1 x2) (by simp [results, Try.results79, go_sem, *]) rfl ⟨rfl, ?_⟩; (repeat' (first | assumption | exact below_refl _ | refine bl_alloc ?_ _ | refine Below.setCell ?_ ?_ _ | refine below_draw ?_ | refine below_drewN ?_ _ | refine below_tr ?_ (by assumption))) <;> (first | omega | (simp; done) | (simp; omega)))
theorem p_nearest (A : Option Addr) (l : List Pt) (c : Nat) (w : World) (hv : vldP l = true) (hR : Rd Pt.cs 2 w A l) :
    Calls Try.prog 79 #[.slice A l.length c] w fun e w' => e = .returned (lnV (nearP l)) ∧ Below w.heap.size w w' := by
  obtain ⟨h1, h2⟩ := vld_len hv
  rcases (by omega : l.length = 1 ∨ l.length = 2 ∨ 3 ≤ l.length) with h | h | h
  · exact p_nearest_one A l c w (vld_sp hv) h hR
  · exact p_nearest_two A l c w hv h hR
  · have hn : nearP l = (nFold l (trips l.length)).1 := by unfold nearP; rw [if_neg (by omega), if_neg (by omega)]
    have := p_nearest_many A l c w (vld_snd hv) (vld_lt hv) h h2 hR
    rw [← hn] at this
    exact this
set_option maxHeartbeats 400000 in
set_option maxRecDepth 20000 in
theorem p_Nearest (A : Option Addr) (l : List Pt) (c : Nat) (w : World) (hn : l.length ≤ 100000) (hR : Rd Pt.cs 2 w A l) :
    Calls Try.prog 37 #[.slice A l.length c] w fun e w' => e = .returned (.tuple #[lnV (nearL l).1, .int .i64 (nearL l).2]) ∧ Below w.heap.size w w' := by
  cases hv : vldP l
  · rw [show nearL l = ((0, 0, 0), 1) by simp [nearL, hv]]
    have HV := Lib.hid (fun W (h : Below w.heap.size w W) => p_validPoints A l c W hn (hR.on h))
    go_enter Try.func37, Try.ntmps37
    go_wp2_with (go_at_call 30; ((with_reducible refine (calls_bool hv (HV.out _ (below_alloc _ _))).mono ?_); rintro e w1 ⟨rfl, hb1⟩; obtain ⟨hc1, hf1⟩ := bcell hb1; have hz1 := hb1.size; (try simp [sz_drew, sz_drewN] at hz1); (try simp only [sz_drew, sz_drewN] at hc1 hf1); have z1_0 : w.heap.size < w1.heap.size := (by omega)))
    (refine bodyPost_ret (v := .tuple #[lineV 0 0 0, .int .i64 1]) (by simp [results, Try.results37, go_sem, *]) rfl ⟨rfl, ?_⟩; (repeat' (first | assumption | exact below_refl _ | refine bl_alloc ?_ _ | refine Below.setCell ?_ ?_ _ | refine below_draw ?_ | refine below_drewN ?_ _ | refine below_tr ?_ (by assumption))) <;> (first | omega | (simp; done) | (simp; omega)))
  · rw [show nearL l = (nearP l, 0) by simp [nearL, hv]]
    exact p_Nearest_by A l c w (nearP l) hv hR (fun W hW => p_nearest A l c W hv (hR.on hW))
set_option maxHeartbeats 400000 in
set_option maxRecDepth 20000 in
theorem p_Bend (A : Option Addr) (l : List Pt) (c : Nat) (w : World) (hn : l.length ≤ 100000) (hR : Rd Pt.cs 2 w A l) :
    Calls Try.prog 39 #[.slice A l.length c] w fun e w' => e = .returned (.tuple #[frV (bendL l).1, .int .i64 (bendL l).2]) ∧ Below w.heap.size w w' := by
  have HN := fun W (h : Below w.heap.size w W) => p_Nearest A l c W hn (hR.on h)
  cases hv : vldP l
  · rw [show bendL l = ((0, 0), 1) by simp [bendL, hv]]
    rw [show nearL l = ((0, 0, 0), 1) by simp [nearL, hv]] at HN
    have HN := Lib.hid HN
    clear hR
    go_enter Try.func39, Try.ntmps39
    go_wp2_with (go_at_call 37; ((with_reducible refine (HN.out _ (below_alloc _ _)).mono ?_); rintro e w1 ⟨rfl, hb1⟩; obtain ⟨hc1, hf1⟩ := bcell hb1; have hz1 := hb1.size; (try simp [sz_drew, sz_drewN] at hz1); (try simp only [sz_drew, sz_drewN] at hc1 hf1); have z1_0 : w.heap.size < w1.heap.size := (by omega)))
    (refine bodyPost_ret (v := .tuple #[frV (0, 0), .int .i64 1]) (by simp [results, Try.results39, go_sem, *]) rfl ⟨rfl, ?_⟩; (repeat' (first | assumption | exact below_refl _ | refine bl_alloc ?_ _ | refine Below.setCell ?_ ?_ _ | refine below_draw ?_ | refine below_drewN ?_ _ | refine below_tr ?_ (by assumption))) <;> (first | omega | (simp; done) | (simp; omega)))
  · have HW := fun W (h : Below w.heap.size w W) => p_Worst (nearP l).1 (nearP l).2.1 (nearP l).2.2 A l c W (hR.on h) hn
    rw [show bendL l = ((gN (eMax l (nearP l)) (nearP l).2.2, gD (eMax l (nearP l)) (nearP l).2.2), 0) by simp [bendL, hv]]
    rw [show nearL l = (nearP l, 0) by simp [nearL, hv]] at HN
    rw [show wrstL ((nearP l).1, (nearP l).2.1, (nearP l).2.2) l = (((wst (nearP l) l : Nat) : Int), (gN (eMax l (nearP l)) (nearP l).2.2, gD (eMax l (nearP l)) (nearP l).2.2), 0) by simp [wrstL, hv, near_vld hv]] at HW
    generalize gN (eMax l (nearP l)) (nearP l).2.2 = n at *
    generalize gD (eMax l (nearP l)) (nearP l).2.2 = d at *
    generalize wst (nearP l) l = k at *
    generalize nearP l = x at *
    obtain ⟨x0, x1, x2⟩ := x
    dsimp only at HN HW
    have HN := Lib.hid HN
    have HW := Lib.hid HW
    clear hR
    go_enter Try.func39, Try.ntmps39
    go_wp2_with (first
      | ((go_at_call 37; ((with_reducible refine (HN.out _ (below_alloc _ _)).mono ?_); rintro e w1 ⟨rfl, hb1⟩; obtain ⟨hc1, hf1⟩ := bcell hb1; have hz1 := hb1.size; (try simp [sz_drew, sz_drewN] at hz1); (try simp only [sz_drew, sz_drewN] at hc1 hf1); have z1_0 : w.heap.size < w1.heap.size := (by omega))); have B1 : Below w.heap.size w w1 := (by (repeat' (first | assumption | exact below_refl _ | refine bl_alloc ?_ _ | refine Below.setCell ?_ ?_ _ | refine below_draw ?_ | refine below_drewN ?_ _ | refine below_tr ?_ (by assumption))) <;> (first | omega | (simp; done) | (simp; omega))))
      | ((go_at_call 28; ((with_reducible refine (HW.out _ (bl_alloc B1 _)).mono ?_); rintro e w2 ⟨rfl, hb2⟩; obtain ⟨hc2, hf2⟩ := bcell hb2; have hz2 := hb2.size; (try simp [sz_drew, sz_drewN] at hz2); (try simp only [sz_drew, sz_drewN] at hc2 hf2); have z2_0 : w.heap.size < w2.heap.size := (by omega); have y2_0 : w1.heap.size < w2.heap.size := (by omega)))))
    have q0 : w2.cell? ⟨w.heap.size, 0, none⟩ = some (.int .i64 0) := by go_simp
    have q1 : w2.cell? ⟨w.heap.size, 1, none⟩ = some (.int .i64 0) := by go_simp
    have q2 : w2.frozen? ⟨w.heap.size, 0, none⟩ = false := by go_simp
    have q3 : w2.frozen? ⟨w.heap.size, 1, none⟩ = false := by go_simp
    (refine bodyPost_ret (v := .tuple #[frV (n, d), .int .i64 0]) (by simp [results, Try.results39, go_sem, *]) rfl ⟨rfl, ?_⟩; (repeat' (first | assumption | exact below_refl _ | refine bl_alloc ?_ _ | refine Below.setCell ?_ ?_ _ | refine below_draw ?_ | refine below_drewN ?_ _ | refine below_tr ?_ (by assumption))) <;> (first | omega | (simp; done) | (simp; omega)))
end Go.Proofs.Ytohbejdfaecghaa
