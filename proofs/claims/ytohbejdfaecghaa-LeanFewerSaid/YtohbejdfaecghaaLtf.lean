/- Lean: LeanLines walked. -/
import Derived.Test.YtohbejdfaecghaaLtk
import Derived.Test.YtohbejdfaecghaaLi
set_option linter.unusedSimpArgs false
set_option linter.unusedVariables false
namespace Go.Proofs.Ytohbejdfaecghaa
open Go.RowKit

set_option maxHeartbeats 2000000 in
set_option maxRecDepth 20000 in
theorem l_lines (a b d : Int) (p : Pt) (n0 n1 n2 n3 : Int) (w : World) :
    Calls Try.prog 5 #[lineV a b d, .agg #[.int .i64 p.h, .int .i64 p.x], .agg #[.int .i64 n0, .int .i64 n1, .int .i64 n2, .int .i64 n3]] w fun e w' => e = .returned (.bool true) ∧ Below w.heap.size w w' := by
  have P1 := fun W => p_Make n0 n1 n2 W
  have P2 := fun W => r_Make n0 n1 n2 W
  have P3 := fun W => p_validLine a b d W
  have P4 := fun W => r_validLine a b d W
  have P5 := fun W => p_At a b d n3 W
  have P6 := fun W => r_At a b d n3 W
  have P7 := fun W => p_Distance a b d p W
  have P8 := fun W => r_Distance a b d p W
  generalize makeL n0 n1 n2 = M at *
  generalize vldL a b d = V at *
  generalize atL (a, b, d) n3 = T at *
  generalize dstL (a, b, d) p = D at *
  obtain ⟨⟨x0, x1, x2⟩, me⟩ := M
  obtain ⟨⟨tn, td⟩, te⟩ := T
  obtain ⟨⟨dn, dd⟩, de⟩ := D
  dsimp only at *
  have P1 := Lib.hid P1
  have P2 := Lib.hid P2
  have P3 := Lib.hid P3
  have P4 := Lib.hid P4
  have P5 := Lib.hid P5
  have P6 := Lib.hid P6
  have P7 := Lib.hid P7
  have P8 := Lib.hid P8
  go_enter Try.func5, Try.ntmps5
  go_wp2_with (first
    | (go_at_call 22; ((with_reducible refine (P2.out _).mono ?_); rintro e w2 ⟨rfl, hb2⟩; obtain ⟨hc2, hf2⟩ := bcell hb2; have hz2 := hb2.size; (try simp [sz_drew, sz_drewN] at hz2); (try simp only [sz_drew, sz_drewN] at hc2 hf2); have z2_0 : w.heap.size < w2.heap.size := (by omega); have z2_1 : w.heap.size + 1 < w2.heap.size := (by omega); have z2_2 : w.heap.size + 1 + 1 < w2.heap.size := (by omega); have y2_0 : w1.heap.size < w2.heap.size := (by omega)))
    | (go_at_call 21; ((with_reducible refine (P1.out _).mono ?_); rintro e w1 ⟨rfl, hb1⟩; obtain ⟨hc1, hf1⟩ := bcell hb1; have hz1 := hb1.size; (try simp [sz_drew, sz_drewN] at hz1); (try simp only [sz_drew, sz_drewN] at hc1 hf1); have z1_0 : w.heap.size < w1.heap.size := (by omega); have z1_1 : w.heap.size + 1 < w1.heap.size := (by omega); have z1_2 : w.heap.size + 1 + 1 < w1.heap.size := (by omega))))
  refine wp_world ?_
  intro W1 hW1
  have bW1 : Below w.heap.size w W1 := by rw [hW1]; (repeat' (first | assumption | exact below_refl _ | refine bl_alloc ?_ _ | refine Below.setCell ?_ ?_ _ | refine below_draw ?_ | refine below_drewN ?_ _ | refine below_tr ?_ (by assumption))) <;> (first | omega | (simp; done) | (simp; omega))
  have gW1_0 : w.heap.size < W1.heap.size := by rw [hW1]; (first | assumption | (simp; done) | (simp; omega))
  have gW1_0_0 : W1.cell? ⟨w.heap.size, 0, none⟩ = some (.int .i64 a) := by rw [hW1]; go_simp
  have gW1_0_1 : W1.cell? ⟨w.heap.size, 1, none⟩ = some (.int .i64 b) := by rw [hW1]; go_simp
  have gW1_0_2 : W1.cell? ⟨w.heap.size, 2, none⟩ = some (.int .i64 d) := by rw [hW1]; go_simp
  have gW1_1 : w.heap.size + 1 < W1.heap.size := by rw [hW1]; (first | assumption | (simp; done) | (simp; omega))
  have gW1_1_0 : W1.cell? ⟨w.heap.size + 1, 0, none⟩ = some (.int .i64 p.h) := by rw [hW1]; go_simp
  have gW1_1_1 : W1.cell? ⟨w.heap.size + 1, 1, none⟩ = some (.int .i64 p.x) := by rw [hW1]; go_simp
  have gW1_2 : w.heap.size + 1 + 1 < W1.heap.size := by rw [hW1]; (first | assumption | (simp; done) | (simp; omega))
  have gW1_2_0 : W1.cell? ⟨w.heap.size + 1 + 1, 0, none⟩ = some (.int .i64 n0) := by rw [hW1]; go_simp
  have gW1_2_1 : W1.cell? ⟨w.heap.size + 1 + 1, 1, none⟩ = some (.int .i64 n1) := by rw [hW1]; go_simp
  have gW1_2_2 : W1.cell? ⟨w.heap.size + 1 + 1, 2, none⟩ = some (.int .i64 n2) := by rw [hW1]; go_simp
  have gW1_2_3 : W1.cell? ⟨w.heap.size + 1 + 1, 3, none⟩ = some (.int .i64 n3) := by rw [hW1]; go_simp
  have gW1_3 : w1.heap.size < W1.heap.size := by rw [hW1]; (first | assumption | (simp; done) | (simp; omega))
  have gW1_3_0 : W1.cell? ⟨w1.heap.size, 0, none⟩ = some (.int .i64 x0) := by rw [hW1]; go_simp
  have gW1_3_1 : W1.cell? ⟨w1.heap.size, 1, none⟩ = some (.int .i64 x1) := by rw [hW1]; go_simp
  have gW1_3_2 : W1.cell? ⟨w1.heap.size, 2, none⟩ = some (.int .i64 x2) := by rw [hW1]; go_simp
  have gW1_4 : w2.heap.size < W1.heap.size := by rw [hW1]; (first | assumption | (simp; done) | (simp; omega))
  have gW1_4_0 : W1.cell? ⟨w2.heap.size, 0, none⟩ = some (.int .i64 x0) := by rw [hW1]; go_simp
  have gW1_4_1 : W1.cell? ⟨w2.heap.size, 1, none⟩ = some (.int .i64 x1) := by rw [hW1]; go_simp
  have gW1_4_2 : W1.cell? ⟨w2.heap.size, 2, none⟩ = some (.int .i64 x2) := by rw [hW1]; go_simp
  clear hW1
  refine wp_region_noPanic ?_
  refine wp_region_held_drew (S := (fun w' => (∀ b o, b < W1.heap.size → w'.cell? ⟨b, o, none⟩ = W1.cell? ⟨b, o, none⟩) ∧ (∀ b o, b < W1.heap.size → w'.frozen? ⟨b, o, none⟩ = W1.frozen? ⟨b, o, none⟩) ∧ Below W1.heap.size W1 w')) (by kernel_rfl) (kq_draw kq_refl) (fun hS0 => ?_)
  refine wpAnyH_take (i := 0) (oi := { dst := some 33, op := _, type := _, pos := _, after := _, guard := none }) (v := ?gv25) rfl (by kernel_rfl) (by kernel_rfl) (by kernel_rfl) (fun _ _ _ h => h) (Or.inl ⟨by rfl, ?gy25⟩) (by assumption) ?_
  case gy25 => (intro w' hSw; go_simp; try with_reducible rfl)
  try simp only [Act.put, List.setIfInBounds_toArray, List.set_cons_zero, List.set_cons_succ]
  refine wpAnyH_take (i := 1) (oi := { dst := some 34, op := _, type := _, pos := _, after := _, guard := none }) (v := ?gv26) rfl (by kernel_rfl) (by kernel_rfl) (by kernel_rfl) (fun _ _ _ h => h) (Or.inl ⟨by rfl, ?gy26⟩) (by assumption) ?_
  case gy26 => (intro w' hSw; go_simp; try with_reducible rfl)
  try simp only [Act.put, List.setIfInBounds_toArray, List.set_cons_zero, List.set_cons_succ]
  refine wpAnyH_take (i := 2) (oi := { dst := some 35, op := _, type := _, pos := _, after := _, guard := none }) (v := ?gv27) rfl (by kernel_rfl) (by kernel_rfl) (by kernel_rfl) (fun _ _ _ h => h) (Or.inl ⟨by rfl, ?gy27⟩) (by assumption) ?_
  case gy27 => (intro w' hSw; go_simp; try with_reducible rfl)
  try simp only [Act.put, List.setIfInBounds_toArray, List.set_cons_zero, List.set_cons_succ]
  refine wpAnyH_take (i := 3) (oi := { dst := some 36, op := _, type := _, pos := _, after := _, guard := none }) (v := ?gv28) rfl (by kernel_rfl) (by kernel_rfl) (by kernel_rfl) (fun _ _ _ h => h) (Or.inl ⟨by rfl, ?gy28⟩) (by assumption) ?_
  case gy28 => (intro w' hSw; go_simp; try with_reducible rfl)
  try simp only [Act.put, List.setIfInBounds_toArray, List.set_cons_zero, List.set_cons_succ]
  refine wpAnyH_take (i := 4) (oi := { dst := some 37, op := _, type := _, pos := _, after := _, guard := some (3, false) }) (v := ?gv29) rfl (by kernel_rfl) (by kernel_rfl) (by kernel_rfl) (fun _ _ _ h => h) (Or.inl ⟨by rfl, ?gy29⟩) (by assumption) ?_
  case gy29 => (intro w' hSw; go_simp; try with_reducible rfl)
  try simp only [Act.put, List.setIfInBounds_toArray, List.set_cons_zero, List.set_cons_succ]
  refine wpAnyH_take (i := 5) (oi := { dst := some 38, op := _, type := _, pos := _, after := _, guard := some (3, false) }) (v := ?gv30) rfl (by kernel_rfl) (by kernel_rfl) (by kernel_rfl) (fun _ _ _ h => h) (Or.inl ⟨by rfl, ?gy30⟩) (by assumption) ?_
  case gy30 => (intro w' hSw; go_simp; try with_reducible rfl)
  try simp only [Act.put, List.setIfInBounds_toArray, List.set_cons_zero, List.set_cons_succ]
  refine wpAnyH_take (i := 6) (oi := { dst := some 39, op := _, type := _, pos := _, after := _, guard := some (3, false) }) (v := ?gv31) rfl (by kernel_rfl) (by kernel_rfl) (by kernel_rfl) (fun _ _ _ h => h) (Or.inl ⟨by rfl, ?gy31⟩) (by assumption) ?_
  case gy31 => (intro w' hSw; go_simp; try with_reducible rfl)
  try simp only [Act.put, List.setIfInBounds_toArray, List.set_cons_zero, List.set_cons_succ]
  refine wpAnyH_take (i := 7) (oi := { dst := some 40, op := _, type := _, pos := _, after := _, guard := none }) (v := ?gv32) rfl (by kernel_rfl) (by kernel_rfl) (by kernel_rfl) (fun _ _ _ h => h) (Or.inl ⟨by rfl, ?gy32⟩) (by assumption) ?_
  case gy32 => (intro w' hSw; go_simp; try with_reducible rfl)
  try simp only [Act.put, List.setIfInBounds_toArray, List.set_cons_zero, List.set_cons_succ]
  refine wpAnyH_take (i := 8) (oi := { dst := some 41, op := _, type := _, pos := _, after := _, guard := none }) (v := ?gv33) rfl (by kernel_rfl) (by kernel_rfl) (by kernel_rfl) (fun _ _ _ h => h) (Or.inl ⟨by rfl, ?gy33⟩) (by assumption) ?_
  case gy33 => (intro w' hSw; go_simp; try with_reducible rfl)
  try simp only [Act.put, List.setIfInBounds_toArray, List.set_cons_zero, List.set_cons_succ]
  refine wpAnyH_take (i := 9) (oi := { dst := some 42, op := _, type := _, pos := _, after := _, guard := some (8, false) }) (v := ?gv34) rfl (by kernel_rfl) (by kernel_rfl) (by kernel_rfl) (fun _ _ _ h => h) (Or.inl ⟨by rfl, ?gy34⟩) (by assumption) ?_
  case gy34 => (intro w' hSw; go_simp; try with_reducible rfl)
  try simp only [Act.put, List.setIfInBounds_toArray, List.set_cons_zero, List.set_cons_succ]
  refine wpAnyH_take (i := 11) (oi := { dst := some 44, op := _, type := _, pos := _, after := _, guard := some (8, false) }) (v := ?gv35) rfl (by kernel_rfl) (by kernel_rfl) (by kernel_rfl) (fun _ _ _ h => h) (Or.inl ⟨by rfl, ?gy35⟩) (by assumption) ?_
  case gy35 => (intro w' hSw; go_simp; try with_reducible rfl)
  try simp only [Act.put, List.setIfInBounds_toArray, List.set_cons_zero, List.set_cons_succ]
  refine wpAnyH_ready (rs := [10]) (by kernel_rfl) (by simp) ?_
  refine AllReadyH.cons rfl (fun K hK => ?_) AllReadyH.nil
  go_simp
  (go_at_call 23; ((with_reducible refine (P3.out _).mono ?_); rintro e w3 ⟨rfl, hb3⟩; obtain ⟨hc3, hf3⟩ := bcell hb3; have hz3 := hb3.size; (try simp [sz_drew, sz_drewN] at hz3); (try simp only [sz_drew, sz_drewN] at hc3 hf3)))
  refine hK.out _ _ (by ((show Kq W1 _); (repeat' (first | assumption | exact kq_refl | refine kq_draw ?_ | refine kq_drewN ?_ | refine kq_alloc ?_ | refine kq_set ?_ ?_ | refine kq_step ?_ (by assumption))); (all_goals (first | omega | (simp; omega))))) (fun hS1 => ?_)
  clear hK K
  try simp only [Act.put, List.setIfInBounds_toArray, List.set_cons_zero, List.set_cons_succ]
  refine wpAnyH_ready (rs := [12]) (by kernel_rfl) (by simp) ?_
  refine AllReadyH.cons rfl (fun K hK => ?_) AllReadyH.nil
  go_simp
  (go_at_call 24; ((with_reducible refine (P4.out _).mono ?_); rintro e w4 ⟨rfl, hb4⟩; obtain ⟨hc4, hf4⟩ := bcell hb4; have hz4 := hb4.size; (try simp [sz_drew, sz_drewN] at hz4); (try simp only [sz_drew, sz_drewN] at hc4 hf4); have z4_0 : w.heap.size < w4.heap.size := (by omega); have z4_1 : w.heap.size + 1 < w4.heap.size := (by omega); have z4_2 : w.heap.size + 1 + 1 < w4.heap.size := (by omega); have y4_0 : w1.heap.size < w4.heap.size := (by omega); have y4_1 : w2.heap.size < w4.heap.size := (by omega)))
  refine hK.out _ _ (by ((show Kq W1 _); (repeat' (first | assumption | exact kq_refl | refine kq_draw ?_ | refine kq_drewN ?_ | refine kq_alloc ?_ | refine kq_set ?_ ?_ | refine kq_step ?_ (by assumption))); (all_goals (first | omega | (simp; omega))))) (fun hS2 => ?_)
  clear hK K
  try simp only [Act.put, List.setIfInBounds_toArray, List.set_cons_zero, List.set_cons_succ]
  refine wpAnyH_take (i := 13) (oi := { dst := some 46, op := _, type := _, pos := _, after := _, guard := some (8, false) }) (v := ?gv36) rfl (by kernel_rfl) (by kernel_rfl) (by kernel_rfl) (fun _ _ _ h => h) (Or.inl ⟨by rfl, ?gy36⟩) (by assumption) ?_
  case gy36 => (intro w' hSw; go_simp; try with_reducible rfl)
  try simp only [Act.put, List.setIfInBounds_toArray, List.set_cons_zero, List.set_cons_succ]
  refine wpAnyH_take (i := 14) (oi := { dst := some 47, op := _, type := _, pos := _, after := _, guard := none }) (v := ?gv37) rfl (by kernel_rfl) (by kernel_rfl) (by kernel_rfl) (fun _ _ _ h => h) (Or.inl ⟨by rfl, ?gy37⟩) (by assumption) ?_
  case gy37 => (intro w' hSw; go_simp; try with_reducible rfl)
  try simp only [Act.put, List.setIfInBounds_toArray, List.set_cons_zero, List.set_cons_succ]
  refine wpAnyH_done (by kernel_rfl) (NoPanic.normal ?_) _
  go_wp2_with (first
    | (go_at_call 25; ((with_reducible refine (P5.out _).mono ?_); rintro e w5 ⟨rfl, hb5⟩; obtain ⟨hc5, hf5⟩ := bcell hb5; have hz5 := hb5.size; (try simp [sz_drew, sz_drewN] at hz5); (try simp only [sz_drew, sz_drewN] at hc5 hf5); have z5_0 : w.heap.size < w5.heap.size := (by omega); have z5_1 : w.heap.size + 1 < w5.heap.size := (by omega); have z5_2 : w.heap.size + 1 + 1 < w5.heap.size := (by omega); have y5_0 : w1.heap.size < w5.heap.size := (by omega); have y5_1 : w2.heap.size < w5.heap.size := (by omega)))
    | (go_at_call 26; ((with_reducible refine (P6.out _).mono ?_); rintro e w6 ⟨rfl, hb6⟩; obtain ⟨hc6, hf6⟩ := bcell hb6; have hz6 := hb6.size; (try simp [sz_drew, sz_drewN] at hz6); (try simp only [sz_drew, sz_drewN] at hc6 hf6); have z6_0 : w.heap.size < w6.heap.size := (by omega); have z6_1 : w.heap.size + 1 < w6.heap.size := (by omega); have z6_2 : w.heap.size + 1 + 1 < w6.heap.size := (by omega); have y6_0 : w1.heap.size < w6.heap.size := (by omega); have y6_1 : w2.heap.size < w6.heap.size := (by omega); have y6_2 : w5.heap.size < w6.heap.size := (by omega)))
    | ((go_at_call 20; ((with_reducible refine (P7.out _).mono ?_); rintro e w7 ⟨rfl, hb7⟩; obtain ⟨hc7, hf7⟩ := bcell hb7; have hz7 := hb7.size; (try simp [sz_drew, sz_drewN] at hz7); (try simp only [sz_drew, sz_drewN] at hc7 hf7); have z7_0 : w.heap.size < w7.heap.size := (by omega); have z7_1 : w.heap.size + 1 < w7.heap.size := (by omega); have z7_2 : w.heap.size + 1 + 1 < w7.heap.size := (by omega); have y7_0 : w5.heap.size < w7.heap.size := (by omega); have y7_1 : w6.heap.size < w7.heap.size := (by omega))); have ne1 : w5.heap.size ≠ w6.heap.size := (by omega); have ne2 : w6.heap.size ≠ w5.heap.size := (by omega))
    | ((go_at_call 27; ((with_reducible refine (P8.out _).mono ?_); rintro e w8 ⟨rfl, hb8⟩; obtain ⟨hc8, hf8⟩ := bcell hb8; have hz8 := hb8.size; (try simp [sz_drew, sz_drewN] at hz8); (try simp only [sz_drew, sz_drewN] at hc8 hf8); have z8_0 : w.heap.size < w8.heap.size := (by omega); have z8_1 : w.heap.size + 1 < w8.heap.size := (by omega); have z8_2 : w.heap.size + 1 + 1 < w8.heap.size := (by omega); have y8_0 : w5.heap.size < w8.heap.size := (by omega); have y8_1 : w6.heap.size < w8.heap.size := (by omega))); have A5 := ((((((Blk.new w5 23 #[.int .i64 tn, .int .i64 td]).below hb6 (by simp)).alloc (.cells #[.int .i64 tn, .int .i64 td] 23)).below hb7 (by simp; omega)).set_ 0 (.int .i64 dn)).set_ 1 (.int .i64 dd)).below hb8 (by simp; omega); have A6 := ((((Blk.new w6 23 #[.int .i64 tn, .int .i64 td]).below hb7 (by simp)).far (by simp; omega) (.int .i64 dn)).far (by simp; omega) (.int .i64 dd)).below hb8 (by simp; omega); have j0 : w8.cell? ⟨w5.heap.size, 0, none⟩ = some (.int .i64 dn) := (A5.cell 0); have j1 : w8.cell? ⟨w5.heap.size, 1, none⟩ = some (.int .i64 dd) := (A5.cell 1); have j2 : w8.cell? ⟨w6.heap.size, 0, none⟩ = some (.int .i64 tn) := (A6.cell 0); have j3 : w8.cell? ⟨w6.heap.size, 1, none⟩ = some (.int .i64 td) := (A6.cell 1); have j4 := A6.frozen 0; have j5 := A6.frozen 1; clear hc8 hf8 A5 A6)
    | (go_at_call 17; ((with_reducible refine (p_awake _).mono ?_); rintro e w9 ⟨rfl, hb9⟩; obtain ⟨hc9, hf9⟩ := bcell hb9; have hz9 := hb9.size; (try simp [sz_drew, sz_drewN] at hz9); (try simp only [sz_drew, sz_drewN] at hc9 hf9); have z9_0 : w.heap.size < w9.heap.size := (by omega); have z9_1 : w.heap.size + 1 < w9.heap.size := (by omega))))
  go_ret
  exact ⟨rfl, by (repeat' (first | assumption | exact below_refl _ | refine bl_alloc ?_ _ | refine Below.setCell ?_ ?_ _ | refine below_draw ?_ | refine below_drewN ?_ _ | refine below_tr ?_ (by assumption))) <;> (first | omega | (simp; done) | (simp; omega))⟩
end Go.Proofs.Ytohbejdfaecghaa
