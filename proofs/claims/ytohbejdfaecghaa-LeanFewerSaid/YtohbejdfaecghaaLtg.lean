/- Lean: Worst by the reference; LeanWorst walked. -/
import Derived.Test.YtohbejdfaecghaaLtx
import Derived.Test.YtohbejdfaecghaaLty
import Derived.Test.YtohbejdfaecghaaLva
set_option linter.unusedSimpArgs false
set_option linter.unusedVariables false
namespace Go.Proofs.Ytohbejdfaecghaa
open Go.RowKit

set_option maxHeartbeats 1000000 in
set_option maxRecDepth 20000 in
theorem r_Worst (a b d : Int) (A : Option Addr) (l : List Pt) (c : Nat) (w : World) (hR : Rd Pt.cs 2 w A l) (hn : l.length ≤ 100000) :
    Calls Try.prog 29 #[lineV a b d, .slice A l.length c] w fun e w' => e = .returned (.tuple #[.int .i64 (wrstL (a, b, d) l).1, frV (wrstL (a, b, d) l).2.1, .int .i64 (wrstL (a, b, d) l).2.2]) ∧ Below w.heap.size w w' := by
  have HV := Lib.hid (fun W (h : Below w.heap.size w W) => r_validPoints A l c W hn (hR.on h))
  have HR := Lib.hid hR
  clear hR
  cases hv : vldL a b d
  · rw [show wrstL (a, b, d) l = (0, (0, 0), 1) by simp [wrstL, hv]]
    go_enter Try.func29, Try.ntmps29
    go_wp2_with (go_at_call 24; ((with_reducible refine (calls_bool hv (r_validLine a b d _)).mono ?_); rintro e w1 ⟨rfl, hb1⟩; obtain ⟨hc1, hf1⟩ := bcell hb1; have hz1 := hb1.size; (try simp [sz_drew, sz_drewN] at hz1); (try simp only [sz_drew, sz_drewN] at hc1 hf1); have z1_0 : w.heap.size < w1.heap.size := (by omega); have z1_1 : w.heap.size + 1 < w1.heap.size := (by omega)))
    (refine bodyPost_ret (v := .tuple #[.int .i64 0, .agg #[.int .i64 0, .int .i64 0], .int .i64 1]) (by simp [results, Try.results29, go_sem, *]) rfl ⟨rfl, ?_⟩; (repeat' (first | assumption | exact below_refl _ | refine bl_alloc ?_ _ | refine Below.setCell ?_ ?_ _ | refine below_draw ?_ | refine below_drewN ?_ _ | refine below_tr ?_ (by assumption))) <;> (first | omega | (simp; done) | (simp; omega)))
  · cases hp : vldP l
    · rw [show wrstL (a, b, d) l = (0, (0, 0), 1) by simp [wrstL, hp]]
      go_enter Try.func29, Try.ntmps29
      go_wp2_with (first
        | ((go_at_call 24; ((with_reducible refine (calls_bool hv (r_validLine a b d _)).mono ?_); rintro e w1 ⟨rfl, hb1⟩; obtain ⟨hc1, hf1⟩ := bcell hb1; have hz1 := hb1.size; (try simp [sz_drew, sz_drewN] at hz1); (try simp only [sz_drew, sz_drewN] at hc1 hf1); have z1_0 : w.heap.size < w1.heap.size := (by omega); have z1_1 : w.heap.size + 1 < w1.heap.size := (by omega))); have B1 : Below w.heap.size w w1 := (by (repeat' (first | assumption | exact below_refl _ | refine bl_alloc ?_ _ | refine Below.setCell ?_ ?_ _ | refine below_draw ?_ | refine below_drewN ?_ _ | refine below_tr ?_ (by assumption))) <;> (first | omega | (simp; done) | (simp; omega))))
        | (go_at_call 31; ((with_reducible refine (calls_bool hp (HV.out _ B1)).mono ?_); rintro e w2 ⟨rfl, hb2⟩; obtain ⟨hc2, hf2⟩ := bcell hb2; have hz2 := hb2.size; (try simp [sz_drew, sz_drewN] at hz2); (try simp only [sz_drew, sz_drewN] at hc2 hf2); have z2_0 : w.heap.size < w2.heap.size := (by omega); have z2_1 : w.heap.size + 1 < w2.heap.size := (by omega))))
      (refine bodyPost_ret (v := .tuple #[.int .i64 0, .agg #[.int .i64 0, .int .i64 0], .int .i64 1]) (by simp [results, Try.results29, go_sem, *]) rfl ⟨rfl, ?_⟩; (repeat' (first | assumption | exact below_refl _ | refine bl_alloc ?_ _ | refine Below.setCell ?_ ?_ _ | refine below_draw ?_ | refine below_drewN ?_ _ | refine below_tr ?_ (by assumption))) <;> (first | omega | (simp; done) | (simp; omega)))
    · rw [show wrstL (a, b, d) l = (((wst (a, b, d) l : Nat) : Int), (gN (eMax l (a, b, d)) d, gD (eMax l (a, b, d)) d), 0) by simp [wrstL, hv, hp]]
      have hb := eMax_bd (x := (a, b, d)) hp hv
      have hl := lb_of (vld_in hv)
      obtain ⟨h1, h2⟩ := vld_len hp
      have hlt := wst_lt (x := (a, b, d)) h1
      obtain ⟨p, ab, off, hx, rfl, hab, c0, c1⟩ := rdP HR.out hlt
      have sp : SP p := vld_sp hp p (List.mem_of_getElem? hx)
      have HW := Lib.hid (fun W (h : Below w.heap.size w W) => r_worst a b d (some ⟨ab, off, none⟩) l c W hl (vld_sp hp) (HR.out.on h) h1 h2)
      have he : eMax l (a, b, d) = farV a b d p := by unfold eMax; rw [ptAt_of hx]
      have HF := Lib.hid (fun W => r_far a b d p W hl sp)
      rw [he] at hb ⊢
      have d0 := hl.d0
      have d1 := hl.d1
      clear hl hx he sp
      generalize farV a b d p = E at *
      generalize wst (a, b, d) l = m at *
      have m1 : (0 : Int) ≤ (m : Int) := Int.natCast_nonneg _
      have m2 : (m : Int) < (l.length : Int) := by omega
      obtain ⟨e0, e1⟩ := hb
      have HL := Lib.hid (fun W => r_lowest E d W ⟨by omega, by omega⟩ ⟨by omega, by omega⟩ (by omega))
      go_enter Try.func29, Try.ntmps29
      go_wp2_with (first
        | ((go_at_call 24; ((with_reducible refine (calls_bool hv (r_validLine a b d _)).mono ?_); rintro e w1 ⟨rfl, hb1⟩; obtain ⟨hc1, hf1⟩ := bcell hb1; have hz1 := hb1.size; (try simp [sz_drew, sz_drewN] at hz1); (try simp only [sz_drew, sz_drewN] at hc1 hf1); have z1_0 : w.heap.size < w1.heap.size := (by omega); have z1_1 : w.heap.size + 1 < w1.heap.size := (by omega))); have B1 : Below w.heap.size w w1 := (by (repeat' (first | assumption | exact below_refl _ | refine bl_alloc ?_ _ | refine Below.setCell ?_ ?_ _ | refine below_draw ?_ | refine below_drewN ?_ _ | refine below_tr ?_ (by assumption))) <;> (first | omega | (simp; done) | (simp; omega))))
        | ((go_at_call 31; ((with_reducible refine (calls_bool hp (HV.out _ B1)).mono ?_); rintro e w2 ⟨rfl, hb2⟩; obtain ⟨hc2, hf2⟩ := bcell hb2; have hz2 := hb2.size; (try simp [sz_drew, sz_drewN] at hz2); (try simp only [sz_drew, sz_drewN] at hc2 hf2); have z2_0 : w.heap.size < w2.heap.size := (by omega); have z2_1 : w.heap.size + 1 < w2.heap.size := (by omega))); have B2 : Below w.heap.size w w2 := below_tr B1 hb2)
        | (go_at_call 74; ((with_reducible refine (HW.out _ B2).mono ?_); rintro e w3 ⟨rfl, hb3⟩; obtain ⟨hc3, hf3⟩ := bcell hb3; have hz3 := hb3.size; (try simp [sz_drew, sz_drewN] at hz3); (try simp only [sz_drew, sz_drewN] at hc3 hf3); have z3_0 : w.heap.size < w3.heap.size := (by omega); have z3_1 : w.heap.size + 1 < w3.heap.size := (by omega))))
      have c0' : w3.cell? ⟨ab, off + m * 2, none⟩ = some (.int .i64 p.h) := by rw [(bcell (below_tr B2 hb3)).1 _ _ hab]; exact c0
      have c1' : w3.cell? ⟨ab, off + m * 2 + 1, none⟩ = some (.int .i64 p.x) := by rw [(bcell (below_tr B2 hb3)).1 _ _ hab]; exact c1
      have gab : ab < w3.heap.size := Nat.lt_of_lt_of_le hab (below_tr B2 hb3).size
      have nab : ab ≠ w.heap.size + 1 := by omega
      have nw : w.heap.size ≠ w.heap.size + 1 := by omega
      have bW : Below w.heap.size w w3 := below_tr B2 hb3
      have q0 : w3.cell? ⟨w.heap.size + 1, 0, none⟩ = some (.int .i64 0) := by go_simp
      have q1 : w3.cell? ⟨w.heap.size + 1, 1, none⟩ = some (.int .i64 0) := by go_simp
      have q2 : w3.frozen? ⟨w.heap.size + 1, 0, none⟩ = false := by go_simp
      have q3 : w3.frozen? ⟨w.heap.size + 1, 1, none⟩ = false := by go_simp
      have g0 : w3.cell? ⟨w.heap.size, 0, none⟩ = some (.int .i64 a) := by go_simp
      have g1 : w3.cell? ⟨w.heap.size, 1, none⟩ = some (.int .i64 b) := by go_simp
      have g2 : w3.cell? ⟨w.heap.size, 2, none⟩ = some (.int .i64 d) := by go_simp
      clear hc1 hc2 hc3 hf1 hf2 hf3 c0 c1
      refine wp_region_noPanic ?_
      refine wp_region_held_drew (S := (fun w' => (∀ b o, b < w3.heap.size → b ≠ w.heap.size + 1 → w'.cell? ⟨b, o, none⟩ = w3.cell? ⟨b, o, none⟩) ∧ (∀ b o, b < w3.heap.size → w'.frozen? ⟨b, o, none⟩ = w3.frozen? ⟨b, o, none⟩) ∧ w3.heap.size ≤ w'.heap.size ∧ Below w.heap.size w w')) (by kernel_rfl) (kx_draw (kx_refl (by assumption))) (fun hS0 => ?_)
      refine wpAnyH_take (i := 0) (oi := { dst := some 20, op := _, type := _, pos := _, after := _, guard := none }) (v := ?gv38) rfl (by kernel_rfl) (by kernel_rfl) (by kernel_rfl) (fun _ _ _ h => h) (Or.inl ⟨by rfl, ?gy38⟩) (by assumption) ?_
      case gy38 => (intro w' hSw; go_simp; try with_reducible rfl)
      try simp only [Act.put, List.setIfInBounds_toArray, List.set_cons_zero, List.set_cons_succ]
      refine wpAnyH_take (i := 1) (oi := { dst := some 21, op := _, type := _, pos := _, after := _, guard := none }) (v := ?gv39) rfl (by kernel_rfl) (by kernel_rfl) (by kernel_rfl) (fun _ _ _ h => h) (Or.inl ⟨by rfl, ?gy39⟩) (by assumption) ?_
      case gy39 => (intro w' hSw; go_simp; try with_reducible rfl)
      try simp only [Act.put, List.setIfInBounds_toArray, List.set_cons_zero, List.set_cons_succ]
      refine wpAnyH_take (i := 2) (oi := { dst := some 22, op := _, type := _, pos := _, after := _, guard := none }) (v := ?gv40) rfl (by kernel_rfl) (by kernel_rfl) (by kernel_rfl) (fun _ _ _ h => h) (Or.inl ⟨by rfl, ?gy40⟩) (by assumption) ?_
      case gy40 => (intro w' hSw; go_simp; try with_reducible rfl)
      try simp only [Act.put, List.setIfInBounds_toArray, List.set_cons_zero, List.set_cons_succ]
      refine wpAnyH_take (i := 3) (oi := { dst := some 23, op := _, type := _, pos := _, after := _, guard := none }) (v := ?gv41) rfl (by kernel_rfl) (by kernel_rfl) (by kernel_rfl) (fun _ _ _ h => h) (Or.inl ⟨by rfl, ?gy41⟩) (by assumption) ?_
      case gy41 => (intro w' hSw; go_simp; try with_reducible rfl)
      try simp only [Act.put, List.setIfInBounds_toArray, List.set_cons_zero, List.set_cons_succ]
      refine wpAnyH_take (i := 4) (oi := { dst := some 24, op := _, type := _, pos := _, after := _, guard := none }) (v := ?gv42) rfl (by kernel_rfl) (by kernel_rfl) (by kernel_rfl) (fun _ _ _ h => h) (Or.inl ⟨by rfl, ?gy42⟩) (by assumption) ?_
      case gy42 => (intro w' hSw; go_simp; try with_reducible rfl)
      try simp only [Act.put, List.setIfInBounds_toArray, List.set_cons_zero, List.set_cons_succ]
      refine wpAnyH_take (i := 5) (oi := { dst := some 25, op := _, type := _, pos := _, after := _, guard := none }) (v := ?gv43) rfl (by kernel_rfl) (by kernel_rfl) (by kernel_rfl) (fun _ _ _ h => h) (Or.inl ⟨by rfl, ?gy43⟩) (by assumption) ?_
      case gy43 => (intro w' hSw; go_simp; try with_reducible rfl)
      try simp only [Act.put, List.setIfInBounds_toArray, List.set_cons_zero, List.set_cons_succ]
      refine wpAnyH_take (i := 7) (oi := { dst := some 27, op := _, type := _, pos := _, after := _, guard := none }) (v := ?gv44) rfl (by kernel_rfl) (by kernel_rfl) (by kernel_rfl) (fun _ _ _ h => h) (Or.inl ⟨by rfl, ?gy44⟩) (by assumption) ?_
      case gy44 => (intro w' hSw; go_simp; try with_reducible rfl)
      try simp only [Act.put, List.setIfInBounds_toArray, List.set_cons_zero, List.set_cons_succ]
      refine wpAnyH_take (i := 8) (oi := { dst := some 28, op := _, type := _, pos := _, after := _, guard := none }) (v := ?gv45) rfl (by kernel_rfl) (by kernel_rfl) (by kernel_rfl) (fun _ _ _ h => h) (Or.inl ⟨by rfl, ?gy45⟩) (by assumption) ?_
      case gy45 => (intro w' hSw; go_simp; try with_reducible rfl)
      try simp only [Act.put, List.setIfInBounds_toArray, List.set_cons_zero, List.set_cons_succ]
      refine wpAnyH_ready (rs := [6]) (by kernel_rfl) (by simp) ?_
      refine AllReadyH.cons rfl (fun K hK => ?_) AllReadyH.nil
      go_simp
      (go_at_call 72; ((with_reducible refine (HF.out _).mono ?_); rintro e w4 ⟨rfl, hb4⟩; obtain ⟨hc4, hf4⟩ := bcell hb4; have hz4 := hb4.size; (try simp [sz_drew, sz_drewN] at hz4); (try simp only [sz_drew, sz_drewN] at hc4 hf4); have z4_0 : w.heap.size < w4.heap.size := (by omega); have z4_1 : w.heap.size + 1 < w4.heap.size := (by omega)))
      refine hK.out _ _ (by (((show Kx w w3 (w.heap.size + 1) _); (repeat' (first | assumption | exact kx_refl (by assumption) | refine kx_set ?_ ?_ | refine kx_draw ?_ | refine kx_step ?_ (by assumption))); (all_goals (first | omega | (simp; omega)))))) (fun hS1 => ?_)
      clear hK K
      try simp only [Act.put, List.setIfInBounds_toArray, List.set_cons_zero, List.set_cons_succ]
      refine wpAnyH_ready (rs := [9]) (by kernel_rfl) (by simp) ?_
      refine AllReadyH.cons rfl (fun K hK => ?_) AllReadyH.nil
      go_simp
      (go_at_call 71; ((with_reducible refine (HL.out _).mono ?_); rintro e w5 ⟨rfl, hb5⟩; obtain ⟨hc5, hf5⟩ := bcell hb5; have hz5 := hb5.size; (try simp [sz_drew, sz_drewN] at hz5); (try simp only [sz_drew, sz_drewN] at hc5 hf5); have z5_0 : w.heap.size < w5.heap.size := (by omega); have z5_1 : w.heap.size + 1 < w5.heap.size := (by omega)))
      obtain ⟨r0, r1, r2, r3⟩ := carry4 hc4 hc5 hf4 hf5 z3_1 z4_1 q0 q1 q2 q3; clear hc4 hc5 hf4 hf5
      refine hK.out _ _ (by (((show Kx w w3 (w.heap.size + 1) _); (repeat' (first | assumption | exact kx_refl (by assumption) | refine kx_set ?_ ?_ | refine kx_draw ?_ | refine kx_step ?_ (by assumption))); (all_goals (first | omega | (simp; omega)))))) (fun hS2 => ?_)
      clear hK K
      try simp only [Act.put, List.setIfInBounds_toArray, List.set_cons_zero, List.set_cons_succ]
      refine wpAnyH_take (i := 10) (oi := { dst := some 4, op := _, type := _, pos := _, after := _, guard := none }) (v := ?gv46) rfl (by kernel_rfl) (by kernel_rfl) (by kernel_rfl) (fun _ _ _ h => h) (Or.inl ⟨by rfl, ?gy46⟩) (by assumption) ?_
      case gy46 => (intro w' hSw; go_simp; try with_reducible rfl)
      try simp only [Act.put, List.setIfInBounds_toArray, List.set_cons_zero, List.set_cons_succ]
      refine wpAnyH_ready (rs := [11]) (by kernel_rfl) (by simp) ?_
      refine AllReadyH.cons rfl (fun K hK => ?_) AllReadyH.nil
      go_simp
      refine hK.out _ _ (by (((show Kx w w3 (w.heap.size + 1) _); (repeat' (first | assumption | exact kx_refl (by assumption) | refine kx_set ?_ ?_ | refine kx_draw ?_ | refine kx_step ?_ (by assumption))); (all_goals (first | omega | (simp; omega)))))) (fun hS3 => ?_)
      clear hK K
      try simp only [Act.put, List.setIfInBounds_toArray, List.set_cons_zero, List.set_cons_succ]
      refine wpAnyH_take (i := 12) (oi := { dst := some 6, op := _, type := _, pos := _, after := _, guard := none }) (v := ?gv47) rfl (by kernel_rfl) (by kernel_rfl) (by kernel_rfl) (fun _ _ _ h => h) (Or.inl ⟨by rfl, ?gy47⟩) (by assumption) ?_
      case gy47 => (intro w' hSw; go_simp; try with_reducible rfl)
      try simp only [Act.put, List.setIfInBounds_toArray, List.set_cons_zero, List.set_cons_succ]
      refine wpAnyH_done (by kernel_rfl) (NoPanic.normal ?_) _
      go_wp2
      (refine bodyPost_ret (v := .tuple #[.int .i64 m, .agg #[.int .i64 (gN E d), .int .i64 (gD E d)], .int .i64 0]) (by simp [results, Try.results29, go_sem, *]) rfl ⟨rfl, ?_⟩; (repeat' (first | assumption | exact below_refl _ | refine bl_alloc ?_ _ | refine Below.setCell ?_ ?_ _ | refine below_draw ?_ | refine below_drewN ?_ _ | refine below_tr ?_ (by assumption))) <;> (first | omega | (simp; done) | (simp; omega)))

set_option maxHeartbeats 1000000 in
set_option maxRecDepth 20000 in
theorem l_worst (a b d : Int) (A : Option Addr) (l : List Pt) (c : Nat) (w : World) (hR : Rd Pt.cs 2 w A l) (hn : l.length ≤ maxLen) :
    Calls Try.prog 6 #[lineV a b d, .slice A l.length c] w fun e w' => e = .returned (.bool true) ∧ Below w.heap.size w w' := by
  unfold maxLen at hn
  by_cases hlen : 100 < l.length
  · go_enter Try.func6, Try.ntmps6
    go_wp2_with (go_at_call 17; ((with_reducible refine (p_awake _).mono ?_); rintro e w1 ⟨rfl, hb1⟩; obtain ⟨hc1, hf1⟩ := bcell hb1; have hz1 := hb1.size; (try simp [sz_drew, sz_drewN] at hz1); (try simp only [sz_drew, sz_drewN] at hc1 hf1); have z1_0 : w.heap.size < w1.heap.size := (by omega)))
    go_ret
    exact ⟨rfl, by (repeat' (first | assumption | exact below_refl _ | refine bl_alloc ?_ _ | refine Below.setCell ?_ ?_ _ | refine below_draw ?_ | refine below_drewN ?_ _ | refine below_tr ?_ (by assumption))) <;> (first | omega | (simp; done) | (simp; omega))⟩
  · have HR := Lib.hid hR
    have P1 := fun W (h : Below w.heap.size w W) => p_Worst a b d A l c W (HR.out.on h) (by omega)
    have P2 := fun W (h : Below w.heap.size w W) => r_Worst a b d A l c W (HR.out.on h) (by omega)
    have P3 := fun W (h : Below w.heap.size w W) => p_validPoints A l c W (by omega) (HR.out.on h)
    have P4 := fun W (h : Below w.heap.size w W) => r_validPoints A l c W (by omega) (HR.out.on h)
    generalize wrstL (a, b, d) l = M at *
    generalize vldP l = V at *
    obtain ⟨i, ⟨n, dd⟩, me⟩ := M
    dsimp only at P1 P2
    have P1 := Lib.hid P1
    have P2 := Lib.hid P2
    have P3 := Lib.hid P3
    have P4 := Lib.hid P4
    clear hR
    go_enter Try.func6, Try.ntmps6
    go_wp2_with (first
      | ((go_at_call 28; ((with_reducible refine (P1.out _ (below_alloc _ _)).mono ?_); rintro e w1 ⟨rfl, hb1⟩; obtain ⟨hc1, hf1⟩ := bcell hb1; have hz1 := hb1.size; (try simp [sz_drew, sz_drewN] at hz1); (try simp only [sz_drew, sz_drewN] at hc1 hf1); have z1_0 : w.heap.size < w1.heap.size := (by omega))); have B1 : Below w.heap.size w w1 := (by (repeat' (first | assumption | exact below_refl _ | refine bl_alloc ?_ _ | refine Below.setCell ?_ ?_ _ | refine below_draw ?_ | refine below_drewN ?_ _ | refine below_tr ?_ (by assumption))) <;> (first | omega | (simp; done) | (simp; omega))))
      | ((go_at_call 29; ((with_reducible refine (P2.out _ (bl_alloc B1 _)).mono ?_); rintro e w2 ⟨rfl, hb2⟩; obtain ⟨hc2, hf2⟩ := bcell hb2; have hz2 := hb2.size; (try simp [sz_drew, sz_drewN] at hz2); (try simp only [sz_drew, sz_drewN] at hc2 hf2); have z2_0 : w.heap.size < w2.heap.size := (by omega); have y2_0 : w1.heap.size < w2.heap.size := (by omega))); have B2 : Below w.heap.size w w2 := (by (repeat' (first | assumption | exact below_refl _ | refine bl_alloc ?_ _ | refine Below.setCell ?_ ?_ _ | refine below_draw ?_ | refine below_drewN ?_ _ | refine below_tr ?_ (by assumption))) <;> (first | omega | (simp; done) | (simp; omega))))
      | ((go_at_call 30; ((with_reducible refine (P3.out _ (bl_alloc B2 _)).mono ?_); rintro e w3 ⟨rfl, hb3⟩; obtain ⟨hc3, hf3⟩ := bcell hb3; have hz3 := hb3.size; (try simp [sz_drew, sz_drewN] at hz3); (try simp only [sz_drew, sz_drewN] at hc3 hf3); have z3_0 : w.heap.size < w3.heap.size := (by omega); have y3_0 : w1.heap.size < w3.heap.size := (by omega); have y3_1 : w2.heap.size < w3.heap.size := (by omega))); have B3 : Below w.heap.size w w3 := (by (repeat' (first | assumption | exact below_refl _ | refine bl_alloc ?_ _ | refine Below.setCell ?_ ?_ _ | refine below_draw ?_ | refine below_drewN ?_ _ | refine below_tr ?_ (by assumption))) <;> (first | omega | (simp; done) | (simp; omega))))
      | ((go_at_call 31; ((with_reducible refine (P4.out _ B3).mono ?_); rintro e w4 ⟨rfl, hb4⟩; obtain ⟨hc4, hf4⟩ := bcell hb4; have hz4 := hb4.size; (try simp [sz_drew, sz_drewN] at hz4); (try simp only [sz_drew, sz_drewN] at hc4 hf4); have z4_0 : w.heap.size < w4.heap.size := (by omega); have y4_0 : w1.heap.size < w4.heap.size := (by omega); have y4_1 : w2.heap.size < w4.heap.size := (by omega))))
      | (go_at_call 17; ((with_reducible refine (p_awake _).mono ?_); rintro e w5 ⟨rfl, hb5⟩; obtain ⟨hc5, hf5⟩ := bcell hb5; have hz5 := hb5.size; (try simp [sz_drew, sz_drewN] at hz5); (try simp only [sz_drew, sz_drewN] at hc5 hf5); have z5_0 : w.heap.size < w5.heap.size := (by omega))))
    go_ret
    exact ⟨rfl, by (repeat' (first | assumption | exact below_refl _ | refine bl_alloc ?_ _ | refine Below.setCell ?_ ?_ _ | refine below_draw ?_ | refine below_drewN ?_ _ | refine below_tr ?_ (by assumption))) <;> (first | omega | (simp; done) | (simp; omega))⟩
end Go.Proofs.Ytohbejdfaecghaa
