/- Fell: what is held, by the reference. -/
import Derived.Test.YtkeojokbpjdhpaaGreatDoorFkq
import Derived.Outline
set_option linter.unusedSimpArgs false
set_option linter.unusedVariables false
namespace Go.Proofs.YtkeojokbpjdhpaaGreatDoor
open Go.RowKit

theorem vcr_crR (a b x : Sp) : vcr (vec b a) (vec x a) = cr a b x := by unfold vcr vec cr; rfl
theorem vdot_dqR (a b x : Sp) : vdot (vec x a) (vec x b) = dq x a b := by unfold vdot vec dq; rfl
def btwB (a b w : Sp) : Bool := decide (cr a b w = 0) && decide (dq w a b ≤ 0)
def insB (a b c w : Sp) : Bool := (decide (0 < cr a b c) && (decide (0 ≤ cr a b w) && (decide (0 ≤ cr b c w) && decide (0 ≤ cr c a w)))) || (decide (cr a b c < 0) && (decide (cr a b w ≤ 0) && (decide (cr b c w ≤ 0) && decide (cr c a w ≤ 0))))
theorem btwB_iff {a b w : Sp} : btwB a b w = true ↔ Btw a b w := by unfold btwB Btw; simp
theorem insB_iff {a b c w : Sp} : insB a b c w = true ↔ Ins a b c w := by unfold insB Ins; simp
def pJ (l : List Sp) (w : Sp) (i k j : Nat) : Bool := insB (gl l i) (gl l k) (gl l j) w
def pK (l : List Sp) (w : Sp) (i k : Nat) : Bool := btwB (gl l i) (gl l k) w || (List.range k).any (pJ l w i k)
def pI (l : List Sp) (w : Sp) (i : Nat) : Bool := (List.range (i + 1)).any (pK l w i)
def heldB (l : List Sp) (w : Sp) : Bool := (List.range l.length).any (pI l w)
theorem dq_sym (w a b : Sp) : dq w b a = dq w a b := by unfold dq; grind
theorem Btw.symm {a b w : Sp} (h : Btw a b w) : Btw b a w := ⟨by rw [cr_flip, h.1]; rfl, by rw [dq_sym]; exact h.2⟩
theorem Ins.rot {a b c w : Sp} (h : Ins a b c w) : Ins b c a w := by
  have e : cr b c a = cr a b c := cr_rot a b c
  unfold Ins at h ⊢; rw [e]; omega
theorem Ins.flip {a b c w : Sp} (h : Ins a b c w) : Ins b a c w := by
  have e := cr_flip a b c
  have e1 := cr_flip a b w
  have e2 := cr_flip b c w
  have e3 := cr_flip c a w
  unfold Ins at h ⊢; rw [e, e1, e3, e2]; omega
theorem Ins.ne {a b c w : Sp} (h : Ins a b c w) : a ≠ b ∧ b ≠ c ∧ a ≠ c := by
  have key : ∀ x y : Sp, cr x x y = 0 ∧ cr x y y = 0 ∧ cr x y x = 0 := fun x y => ⟨(cr_self x y).2.2, (cr_self x y).2.1, (cr_self x y).1⟩
  unfold Ins at h
  refine ⟨?_, ?_, ?_⟩
  · rintro rfl; have := (key a c).1; omega
  · rintro rfl; have := (key a b).2.1; omega
  · rintro rfl; have := (key a b).2.2; omega
theorem gl_mem {l : List Sp} {i : Nat} (h : i < l.length) : gl l i ∈ l := List.mem_of_getElem? (gl_at h)
theorem mem_gl {l : List Sp} {a : Sp} (h : a ∈ l) : ∃ i, i < l.length ∧ gl l i = a := by
  obtain ⟨i, hi, e⟩ := List.getElem_of_mem h
  exact ⟨i, hi, gl_of (by rw [List.getElem?_eq_getElem hi, e])⟩
theorem heldB_iff {l : List Sp} {w : Sp} : heldB l w = true ↔ Held l w := by
  unfold heldB pI pK pJ
  simp only [List.any_eq_true, List.mem_range, Bool.or_eq_true, btwB_iff, insB_iff]
  constructor
  · rintro ⟨i, hi, k, hk, h | ⟨j, hj, h⟩⟩
    · exact ⟨_, gl_mem hi, _, gl_mem (show k < l.length by omega), .inl h⟩
    · exact ⟨_, gl_mem hi, _, gl_mem (show k < l.length by omega), .inr ⟨_, gl_mem (show j < l.length by omega), h⟩⟩
  · rintro ⟨a, ha, b, hb, h | ⟨c, hc, h⟩⟩
    · obtain ⟨i, hi, rfl⟩ := mem_gl ha
      obtain ⟨k, hk, rfl⟩ := mem_gl hb
      rcases Nat.le_total k i with q | q
      · exact ⟨i, hi, k, by omega, .inl h⟩
      · exact ⟨k, hk, i, by omega, .inl h.symm⟩
    · obtain ⟨i, hi, rfl⟩ := mem_gl ha
      obtain ⟨k, hk, rfl⟩ := mem_gl hb
      obtain ⟨j, hj, rfl⟩ := mem_gl hc
      obtain ⟨n1, n2, n3⟩ := h.ne
      have m1 : i ≠ k := fun e => n1 (by rw [e])
      have m2 : k ≠ j := fun e => n2 (by rw [e])
      have m3 : i ≠ j := fun e => n3 (by rw [e])
      rcases (by omega : (j < k ∧ k < i) ∨ (k < j ∧ j < i) ∨ (i < k ∧ k < j) ∨ (k < i ∧ i < j) ∨ (i < j ∧ j < k) ∨ (j < i ∧ i < k)) with q | q | q | q | q | q
      · exact ⟨i, hi, k, by omega, .inr ⟨j, q.1, h⟩⟩
      · exact ⟨i, hi, j, by omega, .inr ⟨k, q.1, h.flip.rot⟩⟩
      · exact ⟨j, hj, k, by omega, .inr ⟨i, q.1, h.rot.flip⟩⟩
      · exact ⟨j, hj, i, by omega, .inr ⟨k, q.1, h.rot.rot⟩⟩
      · exact ⟨k, hk, j, by omega, .inr ⟨i, q.1, h.rot⟩⟩
      · exact ⟨k, hk, i, by omega, .inr ⟨j, q.1, h.flip⟩⟩
theorem held_dec {l : List Sp} {w : Sp} {b : Bool} (h : b = true ↔ Held l w) : b = heldB l w := by rw [Bool.eq_iff_iff, h, heldB_iff]
set_option maxHeartbeats 2000000 in
theorem r_between (a b s : Sp) (w : World) (ha : Bd 10000 a) (hb : Bd 10000 b) (hs : Bd 10000 s) : Calls Tryz.prog 46 #[spV a, spV b, spV s] w fun e w' => e = .returned (.bool (btwB a b s)) ∧ Below w.heap.size w w' := by
  have b1 : Bd 1000000 (vec b a) := (vec_bd (m := 10000) (n := 10000) hb ha).mono (by omega)
  have b2 : Bd 1000000 (vec s a) := (vec_bd (m := 10000) (n := 10000) hs ha).mono (by omega)
  have b3 : Bd 1000000 (vec s b) := (vec_bd (m := 10000) (n := 10000) hs hb).mono (by omega)
  have HM1 := Lib.hid (fun W => r_minus b a W (hb.mono (by omega)) (ha.mono (by omega)))
  have HM2 := Lib.hid (fun W => r_minus s a W (hs.mono (by omega)) (ha.mono (by omega)))
  have HM3 := Lib.hid (fun W => r_minus s b W (hs.mono (by omega)) (hb.mono (by omega)))
  have HC := Lib.hid (fun W => r_cross (vec b a) (vec s a) W b1 b2)
  have HD := Lib.hid (fun W => r_Dot (vec s a) (vec s b) W b2 b3)
  rw [vcr_crR] at HC
  rw [vdot_dqR] at HD
  unfold btwB
  generalize vec b a = V1 at *
  generalize vec s a = V2 at *
  generalize vec s b = V3 at *
  generalize cr a b s = C at *
  generalize dq s a b = D at *
  clear b1 b2 b3 ha hb hs
  go_enter Tryz.func46, Tryz.ntmps46
  go_wp2_with fail
  have x0 := ((Blk.new w 24 (spA a)).alloc (.cells (spA b) 24)).alloc (.cells (spA s) 24)
  have x1 := (Blk.new (w.alloc (.cells (spA a) 24)) 24 (spA b)).alloc (.cells (spA s) 24)
  have x2 := Blk.new ((w.alloc (.cells (spA a) 24)).alloc (.cells (spA b) 24)) 24 (spA s)
  rw [World.size_alloc] at x1 x2
  rw [World.size_alloc] at x2
  have B0 := bl_alloc (bl_alloc (bl_alloc (below_refl w) (.cells (spA a) 24)) (.cells (spA b) 24)) (.cells (spA s) 24)
  generalize ((w.alloc (.cells (spA a) 24)).alloc (.cells (spA b) 24)).alloc (.cells (spA s) 24) = W at *
  have p0 := x0.cell 0
  have p1 := x0.cell 1
  have p2 := x1.cell 0
  have p3 := x1.cell 1
  have p4 := x2.cell 0
  have p5 := x2.cell 1
  simp only [List.getElem?_toArray, List.getElem?_cons_zero, List.getElem?_cons_succ] at p0 p1 p2 p3 p4 p5
  have z0 := x0.lt
  have z1 := x1.lt
  have z2 := x2.lt
  clear x0 x1 x2
  by_cases hC : C = 0
  · subst hC
    go_region_held3 (fun w' => (∀ b o, b < W.heap.size → w'.cell? ⟨b, o, none⟩ = W.cell? ⟨b, o, none⟩) ∧ (∀ b o, b < W.heap.size → w'.frozen? ⟨b, o, none⟩ = W.frozen? ⟨b, o, none⟩) ∧ Below W.heap.size W w') ((first | assumption | (refine kp_of ?_; (repeat' (first | assumption | exact below_refl _ | refine bl_alloc ?_ _ | refine Below.setCell ?_ ?_ _ | refine below_draw ?_ | refine below_drewN ?_ _ | refine below_tr ?_ (by assumption))) <;> (first | omega | (simp; done) | (simp; omega))))) ((first | (go_at_call 72; ((with_reducible refine (HM1.out _).mono ?_); rintro e w3 ⟨rfl, hb3⟩; obtain ⟨hc3, hf3⟩ := bcell hb3; have hz3 := hb3.size; (try simp [sz_drew, sz_drewN] at hz3); (try simp only [sz_drew, sz_drewN] at hc3 hf3))) | (go_at_call 72; ((with_reducible refine (HM2.out _).mono ?_); rintro e w4 ⟨rfl, hb4⟩; obtain ⟨hc4, hf4⟩ := bcell hb4; have hz4 := hb4.size; (try simp [sz_drew, sz_drewN] at hz4); (try simp only [sz_drew, sz_drewN] at hc4 hf4))) | (go_at_call 72; ((with_reducible refine (HM3.out _).mono ?_); rintro e w5 ⟨rfl, hb5⟩; obtain ⟨hc5, hf5⟩ := bcell hb5; have hz5 := hb5.size; (try simp [sz_drew, sz_drewN] at hz5); (try simp only [sz_drew, sz_drewN] at hc5 hf5))) | (go_at_call 71; ((with_reducible refine (HC.out _).mono ?_); rintro e w6 ⟨rfl, hb6⟩; obtain ⟨hc6, hf6⟩ := bcell hb6; have hz6 := hb6.size; (try simp [sz_drew, sz_drewN] at hz6); (try simp only [sz_drew, sz_drewN] at hc6 hf6))) | (go_at_call 73; ((with_reducible refine (HD.out _).mono ?_); rintro e w7 ⟨rfl, hb7⟩; obtain ⟨hc7, hf7⟩ := bcell hb7; have hz7 := hb7.size; (try simp [sz_drew, sz_drewN] at hz7); (try simp only [sz_drew, sz_drewN] at hc7 hf7)))))
    go_wp2
    go_ret
    exact ⟨ret_bool (by simp), below_tr B0 (by (repeat' (first | assumption | exact below_refl _ | refine bl_alloc ?_ _ | refine Below.setCell ?_ ?_ _ | refine below_draw ?_ | refine below_drewN ?_ _ | refine below_tr ?_ (by assumption))) <;> (first | omega | (simp; done) | (simp; omega)))⟩
  · have hd : (C == 0) = false := by simpa using hC
    have hd2 : decide (C = 0) = false := by simpa using hC
    refine wp_region_noPanic ?_
    refine wp_region_held_drew (S := (fun w' => (∀ b o, b < W.heap.size → w'.cell? ⟨b, o, none⟩ = W.cell? ⟨b, o, none⟩) ∧ (∀ b o, b < W.heap.size → w'.frozen? ⟨b, o, none⟩ = W.frozen? ⟨b, o, none⟩) ∧ Below W.heap.size W w')) (by kernel_rfl) (kq_draw kq_refl) (fun hS0 => ?_)
    refine wpAnyH_take (i := 0) (oi := { dst := some 7, op := _, type := _, pos := _, after := _, guard := none }) (v := ?gv1) rfl (by kernel_rfl) (by kernel_rfl) (by kernel_rfl) (fun _ _ _ h => h) (Or.inl ⟨by rfl, ?gy1⟩) (by assumption) ?_
    case gy1 => (intro w' hSw; go_simp; try with_reducible rfl)
    try simp only [Act.put, List.setIfInBounds_toArray, List.set_cons_zero, List.set_cons_succ]
    refine wpAnyH_take (i := 1) (oi := { dst := some 8, op := _, type := _, pos := _, after := _, guard := none }) (v := ?gv2) rfl (by kernel_rfl) (by kernel_rfl) (by kernel_rfl) (fun _ _ _ h => h) (Or.inl ⟨by rfl, ?gy2⟩) (by assumption) ?_
    case gy2 => (intro w' hSw; go_simp; try with_reducible rfl)
    try simp only [Act.put, List.setIfInBounds_toArray, List.set_cons_zero, List.set_cons_succ]
    refine wpAnyH_take (i := 3) (oi := { dst := some 10, op := _, type := _, pos := _, after := _, guard := none }) (v := ?gv3) rfl (by kernel_rfl) (by kernel_rfl) (by kernel_rfl) (fun _ _ _ h => h) (Or.inl ⟨by rfl, ?gy3⟩) (by assumption) ?_
    case gy3 => (intro w' hSw; go_simp; try with_reducible rfl)
    try simp only [Act.put, List.setIfInBounds_toArray, List.set_cons_zero, List.set_cons_succ]
    refine wpAnyH_take (i := 4) (oi := { dst := some 11, op := _, type := _, pos := _, after := _, guard := none }) (v := ?gv4) rfl (by kernel_rfl) (by kernel_rfl) (by kernel_rfl) (fun _ _ _ h => h) (Or.inl ⟨by rfl, ?gy4⟩) (by assumption) ?_
    case gy4 => (intro w' hSw; go_simp; try with_reducible rfl)
    try simp only [Act.put, List.setIfInBounds_toArray, List.set_cons_zero, List.set_cons_succ]
    refine wpAnyH_ready (rs := [2]) (by kernel_rfl) (by simp) ?_
    refine AllReadyH.cons rfl (fun K hK => ?_) AllReadyH.nil
    go_simp
    (go_at_call 72; ((with_reducible refine (HM1.out _).mono ?_); rintro e w3 ⟨rfl, hb3⟩; obtain ⟨hc3, hf3⟩ := bcell hb3; have hz3 := hb3.size; (try simp [sz_drew, sz_drewN] at hz3); (try simp only [sz_drew, sz_drewN] at hc3 hf3)))
    refine hK.out _ _ (by ((show Kq W _); (repeat' (first | assumption | exact kq_refl | refine kq_draw ?_ | refine kq_drewN ?_ | refine kq_alloc ?_ | refine kq_set ?_ ?_ | refine kq_step ?_ (by assumption))); (all_goals (first | omega | (simp; omega))))) (fun hS1 => ?_)
    clear hK K
    try simp only [Act.put, List.setIfInBounds_toArray, List.set_cons_zero, List.set_cons_succ]
    refine wpAnyH_ready (rs := [5]) (by kernel_rfl) (by simp) ?_
    refine AllReadyH.cons rfl (fun K hK => ?_) AllReadyH.nil
    go_simp
    (go_at_call 72; ((with_reducible refine (HM2.out _).mono ?_); rintro e w4 ⟨rfl, hb4⟩; obtain ⟨hc4, hf4⟩ := bcell hb4; have hz4 := hb4.size; (try simp [sz_drew, sz_drewN] at hz4); (try simp only [sz_drew, sz_drewN] at hc4 hf4)))
    refine hK.out _ _ (by ((show Kq W _); (repeat' (first | assumption | exact kq_refl | refine kq_draw ?_ | refine kq_drewN ?_ | refine kq_alloc ?_ | refine kq_set ?_ ?_ | refine kq_step ?_ (by assumption))); (all_goals (first | omega | (simp; omega))))) (fun hS2 => ?_)
    clear hK K
    try simp only [Act.put, List.setIfInBounds_toArray, List.set_cons_zero, List.set_cons_succ]
    refine wpAnyH_ready (rs := [6]) (by kernel_rfl) (by simp) ?_
    refine AllReadyH.cons rfl (fun K hK => ?_) AllReadyH.nil
    go_simp
    (go_at_call 71; ((with_reducible refine (HC.out _).mono ?_); rintro e w6 ⟨rfl, hb6⟩; obtain ⟨hc6, hf6⟩ := bcell hb6; have hz6 := hb6.size; (try simp [sz_drew, sz_drewN] at hz6); (try simp only [sz_drew, sz_drewN] at hc6 hf6)))
    refine hK.out _ _ (by ((show Kq W _); (repeat' (first | assumption | exact kq_refl | refine kq_draw ?_ | refine kq_drewN ?_ | refine kq_alloc ?_ | refine kq_set ?_ ?_ | refine kq_step ?_ (by assumption))); (all_goals (first | omega | (simp; omega))))) (fun hS3 => ?_)
    clear hK K
    try simp only [Act.put, List.setIfInBounds_toArray, List.set_cons_zero, List.set_cons_succ]
    refine wpAnyH_take (i := 7) (oi := { dst := some 14, op := _, type := _, pos := _, after := _, guard := none }) (v := ?gv5) rfl (by kernel_rfl) (by kernel_rfl) (by kernel_rfl) (fun _ _ _ h => h) (Or.inl ⟨by rfl, ?gy5⟩) (by assumption) ?_
    case gy5 => (intro w' hSw; go_simp; try with_reducible rfl)
    try simp only [Act.put, List.setIfInBounds_toArray, List.set_cons_zero, List.set_cons_succ]
    refine wpAnyH_take (i := 8) (oi := { dst := some 15, op := _, type := _, pos := _, after := _, guard := none }) (v := ?gv6) rfl (by kernel_rfl) (by kernel_rfl) (by kernel_rfl) (fun _ _ _ h => h) (Or.inl ⟨by rfl, ?gy6⟩) (by assumption) ?_
    case gy6 => (intro w' hSw; go_simp; try with_reducible rfl)
    try simp only [Act.put, List.setIfInBounds_toArray, List.set_cons_zero, List.set_cons_succ]
    refine wpAnyH_take (i := 9) (oi := { dst := some 16, op := _, type := _, pos := _, after := _, guard := some (8, true) }) (v := undef) rfl (by kernel_rfl) (by kernel_rfl) (by kernel_rfl) (fun _ _ _ h => h) (Or.inr ⟨by rfl, rfl⟩) (by assumption) ?_
    try simp only [Act.put, List.setIfInBounds_toArray, List.set_cons_zero, List.set_cons_succ]
    refine wpAnyH_take (i := 10) (oi := { dst := some 17, op := _, type := _, pos := _, after := _, guard := some (8, true) }) (v := undef) rfl (by kernel_rfl) (by kernel_rfl) (by kernel_rfl) (fun _ _ _ h => h) (Or.inr ⟨by rfl, rfl⟩) (by assumption) ?_
    try simp only [Act.put, List.setIfInBounds_toArray, List.set_cons_zero, List.set_cons_succ]
    refine wpAnyH_take (i := 11) (oi := { dst := some 18, op := _, type := _, pos := _, after := _, guard := some (8, true) }) (v := undef) rfl (by kernel_rfl) (by kernel_rfl) (by kernel_rfl) (fun _ _ _ h => h) (Or.inr ⟨by rfl, rfl⟩) (by assumption) ?_
    try simp only [Act.put, List.setIfInBounds_toArray, List.set_cons_zero, List.set_cons_succ]
    refine wpAnyH_take (i := 12) (oi := { dst := some 19, op := _, type := _, pos := _, after := _, guard := some (8, true) }) (v := undef) rfl (by kernel_rfl) (by kernel_rfl) (by kernel_rfl) (fun _ _ _ h => h) (Or.inr ⟨by rfl, rfl⟩) (by assumption) ?_
    try simp only [Act.put, List.setIfInBounds_toArray, List.set_cons_zero, List.set_cons_succ]
    refine wpAnyH_take (i := 13) (oi := { dst := some 20, op := _, type := _, pos := _, after := _, guard := some (8, true) }) (v := undef) rfl (by kernel_rfl) (by kernel_rfl) (by kernel_rfl) (fun _ _ _ h => h) (Or.inr ⟨by rfl, rfl⟩) (by assumption) ?_
    try simp only [Act.put, List.setIfInBounds_toArray, List.set_cons_zero, List.set_cons_succ]
    refine wpAnyH_take (i := 14) (oi := { dst := some 21, op := _, type := _, pos := _, after := _, guard := some (8, true) }) (v := undef) rfl (by kernel_rfl) (by kernel_rfl) (by kernel_rfl) (fun _ _ _ h => h) (Or.inr ⟨by rfl, rfl⟩) (by assumption) ?_
    try simp only [Act.put, List.setIfInBounds_toArray, List.set_cons_zero, List.set_cons_succ]
    refine wpAnyH_take (i := 15) (oi := { dst := some 22, op := _, type := _, pos := _, after := _, guard := some (8, true) }) (v := undef) rfl (by kernel_rfl) (by kernel_rfl) (by kernel_rfl) (fun _ _ _ h => h) (Or.inr ⟨by rfl, rfl⟩) (by assumption) ?_
    try simp only [Act.put, List.setIfInBounds_toArray, List.set_cons_zero, List.set_cons_succ]
    refine wpAnyH_take (i := 16) (oi := { dst := some 23, op := _, type := _, pos := _, after := _, guard := some (8, true) }) (v := undef) rfl (by kernel_rfl) (by kernel_rfl) (by kernel_rfl) (fun _ _ _ h => h) (Or.inr ⟨by rfl, rfl⟩) (by assumption) ?_
    try simp only [Act.put, List.setIfInBounds_toArray, List.set_cons_zero, List.set_cons_succ]
    refine wpAnyH_take (i := 17) (oi := { dst := some 24, op := _, type := _, pos := _, after := _, guard := none }) (v := ?gv7) rfl (by kernel_rfl) (by kernel_rfl) (by kernel_rfl) (fun _ _ _ h => h) (Or.inl ⟨by rfl, ?gy7⟩) (by assumption) ?_
    case gy7 => (intro w' hSw; go_simp; try with_reducible rfl)
    try simp only [Act.put, List.setIfInBounds_toArray, List.set_cons_zero, List.set_cons_succ]
    refine wpAnyH_take (i := 18) (oi := { dst := some 6, op := _, type := _, pos := _, after := _, guard := none }) (v := ?gv8) rfl (by kernel_rfl) (by kernel_rfl) (by kernel_rfl) (fun _ _ _ h => h) (Or.inl ⟨by rfl, ?gy8⟩) (by assumption) ?_
    case gy8 => (intro w' hSw; go_simp; try with_reducible rfl)
    try simp only [Act.put, List.setIfInBounds_toArray, List.set_cons_zero, List.set_cons_succ]
    refine wpAnyH_done (by kernel_rfl) (NoPanic.normal ?_) _
    go_wp2
    go_ret
    exact ⟨ret_bool (by simp [hC]), below_tr B0 (by (repeat' (first | assumption | exact below_refl _ | refine bl_alloc ?_ _ | refine Below.setCell ?_ ?_ _ | refine below_draw ?_ | refine below_drewN ?_ _ | refine below_tr ?_ (by assumption))) <;> (first | omega | (simp; done) | (simp; omega)))⟩
end Go.Proofs.YtkeojokbpjdhpaaGreatDoor
