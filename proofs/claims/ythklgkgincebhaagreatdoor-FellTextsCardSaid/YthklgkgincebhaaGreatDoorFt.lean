/- Fell: whether a stack stands, by the program. -/
import Derived.Test.YthklgkgincebhaaGreatDoorFp
import Derived.Test.YthklgkgincebhaaGreatDoorFs
set_option linter.unusedSimpArgs false
set_option linter.unusedVariables false
namespace Go.Proofs.YthklgkgincebhaaGreatDoor
open Go.RowKit

theorem vdot_dqP (a b x : Sp) : vdot (vec a x) (vec b x) = dq x a b := by unfold vdot vec dq; dsimp only; grind
theorem stB_held {l s : List Sp} (hp : s.Perm l) (ha : Asc s) (w : Sp) : stB (hul s) w = heldB l w := by
  rw [Bool.eq_iff_iff, st_held ha, held_perm hp, heldB_iff]
theorem stB_no {h : List Sp} (h3 : 3 ≤ h.length) {w : Sp} {i : Nat} (hi : i < h.length) (hc : cr (gl h i) (gl h ((i + 1) % h.length)) w < 0) : stB h w = false := by
  rw [stB_many h3, List.all_eq_false]
  exact ⟨i, by simpa using hi, by simp; omega⟩
theorem stB_yes {h : List Sp} (h3 : 3 ≤ h.length) {w : Sp} (hc : ∀ i, i < h.length → 0 ≤ cr (gl h i) (gl h ((i + 1) % h.length)) w) : stB h w = true := by
  rw [stB_many h3, List.all_eq_true]
  intro i hi
  simpa using hc i (by simpa using hi)
theorem stB_one (a w : Sp) : stB [a] w = decide (a = w) := rfl
theorem stB_two (a b w : Sp) : stB [a, b] w = (decide (cr a b w = 0) && decide (dq w a b ≤ 0)) := rfl
set_option maxHeartbeats 4000000 in
set_option maxRecDepth 20000 in
theorem p_stands (A : Option Addr) (l : List Sp) (c : Nat) (s : Sp) (w : World) (h12 : l.length ≤ 24) (hbd : ∀ x ∈ l, Bd 10000 x) (hnd : l.Nodup) (hs : Bd 10000 s) (hR : Rd Sp.cs 2 w A l) :
    Calls Tryz.prog 26 #[.slice A l.length c, spV s] w fun e w' => e = .returned (.bool (heldB l s)) ∧ Below w.heap.size w w' := by
  have x0 := Blk.new w 32 (spA s)
  have B0 := bl_alloc (below_refl w) (.cells (spA s) 32)
  have HH := Lib.hid (p_hull A l c _ h12 hbd hnd (hR.on B0))
  have HBD := Lib.hid hbd
  have HS := Lib.hid hs
  obtain ⟨R, hRR⟩ : ∃ R : Bool, R = heldB l s := ⟨_, rfl⟩
  rw [← hRR]
  have HRR := Lib.hid hRR
  clear hbd hnd hR hs hRR
  go_enter Tryz.func26, Tryz.ntmps26
  go_wp2_with fail
  refine HH.out.mono ?_
  rintro e w1 ⟨v, q, rfl, hp, ha, ho, hb⟩
  have HEL := Lib.hid (show stB (hul q) s = R by rw [HRR.out]; exact stB_held hp ha s)
  have HQB := Lib.hid (show ∀ x ∈ hul q, Bd 10000 x from fun x hx => HBD.out x (hp.mem_iff.1 (hul_sub ha x hx)))
  have B1 := below_tr B0 hb
  have x1 := x0.below hb x0.lt
  have hql : (hul q).length ≤ 1000 := by
    have h1 := nodup_len (hul_nodup ha) (hul_sub ha)
    have h2 := hp.length_eq
    omega
  have ho1 := own_base (base' := w.heap.size) ho (by rw [World.size_alloc]; omega)
  clear hp ha ho hb B0 x0 HH h12
  generalize hul q = h at *
  clear q
  have p0 := x1.cell 0
  have p1 := x1.cell 1
  simp only [List.getElem?_toArray, List.getElem?_cons_zero, List.getElem?_cons_succ] at p0 p1
  have zx := x1.lt
  rcases (by omega : h.length = 0 ∨ h.length = 1 ∨ h.length = 2 ∨ 3 ≤ h.length) with h0 | h0 | h0 | h3
  · match h, h0, HEL, ho1 with
    | [], _, HEL, ho1 =>
      obtain ⟨ad, cp, rfl⟩ := own_slice ho1
      have HE := Lib.hid (show false = R from HEL.out)
      go_wp2
      go_ret
      exact ⟨ret_bool HE.out, B1⟩
  · match h, h0, HEL, ho1, HQB with
    | [a], _, HEL, ho1, HQB =>
      obtain ⟨g, cap, cur, rfl, hgb, hbk, _⟩ := own_row Sp.cs_len ho1 (by simp)
      obtain ⟨c0, c1, gl'⟩ := own_at ho1 (k := 0) (x := a) rfl
      have HE := Lib.hid (show decide (a = s) = R from HEL.out)
      clear hbk ho1
      rcases (by by_cases x : a.x = s.x <;> by_cases y : a.y = s.y <;> simp [x, y] : (a.x = s.x ∧ a.y = s.y) ∨ (a.x ≠ s.x) ∨ (a.x = s.x ∧ a.y ≠ s.y)) with ⟨e1, e2⟩ | e1 | ⟨e1, e2⟩
      · have HE2 := Lib.hid (show true = R by rw [← HE.out, decide_eq_true (Sp.ext' e1 e2)])
        rw [e1] at c0
        rw [e2] at c1
        clear e1 e2
        go_wp2_with fail
        go_quiet (fail)
        go_wp2
        go_ret
        exact ⟨ret_bool HE2.out, below_drewN B1 _⟩
      · have HE2 := Lib.hid (show false = R by rw [← HE.out, decide_eq_false (fun e => e1 (by rw [e]))])
        go_wp2_with fail
        go_quiet (fail)
        go_wp2
        go_ret
        exact ⟨ret_bool (HE2.out ▸ by first | rfl | simp [e1]), below_drewN B1 _⟩
      · have HE2 := Lib.hid (show false = R by rw [← HE.out, decide_eq_false (fun e => e2 (by rw [e]))])
        rw [e1] at c0
        clear e1
        go_wp2_with fail
        go_quiet (fail)
        go_wp2
        go_ret
        exact ⟨ret_bool (HE2.out ▸ by first | rfl | simp [e2]), below_drewN B1 _⟩
  · match h, h0, HEL, ho1, HQB with
    | [a, b], _, HEL, ho1, HQB =>
      obtain ⟨g, cap, cur, rfl, hgb, hbk, _⟩ := own_row Sp.cs_len ho1 (by simp)
      obtain ⟨c0, c1, gl'⟩ := own_at ho1 (k := 0) (x := a) rfl
      obtain ⟨d0, d1, _⟩ := own_at ho1 (k := 1) (x := b) rfl
      have ba := HQB.out a (by simp)
      have bb := HQB.out b (by simp)
      have bs := HS.out
      have HE := Lib.hid (show (decide (cr a b s = 0) && decide (dq s a b ≤ 0)) = R from HEL.out)
      have HL1 := Lib.hid (fun W => p_less b a W (bb.mono (by omega)) (ba.mono (by omega)))
      have HL2 := Lib.hid (fun W => p_less s a W (bs.mono (by omega)) (ba.mono (by omega)))
      have HL3 := Lib.hid (fun W => p_less a s W (ba.mono (by omega)) (bs.mono (by omega)))
      have HL4 := Lib.hid (fun W => p_less b s W (bb.mono (by omega)) (bs.mono (by omega)))
      have HC := Lib.hid (fun W => p_cross (vec b a) (vec s a) W ((vec_bd (m := 10000) (n := 10000) bb ba).mono (by omega)) ((vec_bd (m := 10000) (n := 10000) bs ba).mono (by omega)))
      have HD := Lib.hid (fun W => p_dot (vec a s) (vec b s) W ((vec_bd (m := 10000) (n := 10000) ba bs).mono (by omega)) ((vec_bd (m := 10000) (n := 10000) bb bs).mono (by omega)))
      rw [vcr_crR] at HC
      rw [vdot_dqP] at HD
      generalize vec b a = V1 at *
      generalize vec s a = V2 at *
      generalize vec a s = V3 at *
      generalize vec b s = V4 at *
      generalize cr a b s = C at *
      generalize dq s a b = D at *
      clear hbk ho1 ba bb bs
      by_cases hC : C = 0
      · subst hC
        go_wp2_with fail
        go_region_held3 (fun w' => (∀ b o, b < w1.heap.size → w'.cell? ⟨b, o, none⟩ = w1.cell? ⟨b, o, none⟩) ∧ (∀ b o, b < w1.heap.size → w'.frozen? ⟨b, o, none⟩ = w1.frozen? ⟨b, o, none⟩) ∧ Below w1.heap.size w1 w') ((first | assumption | (refine kp_of ?_; (repeat' (first | assumption | exact below_refl _ | refine bl_alloc ?_ _ | refine Below.setCell ?_ ?_ _ | refine below_draw ?_ | refine below_drewN ?_ _ | refine below_tr ?_ (by assumption))) <;> (first | omega | (simp; done) | (simp; omega))))) ((first | (go_at_call 44; ((with_reducible refine (HL1.out _).mono ?_); rintro e w3 ⟨rfl, hb3⟩; obtain ⟨hc3, hf3⟩ := bcell hb3; have hz3 := hb3.size; (try simp [sz_drew, sz_drewN] at hz3); (try simp only [sz_drew, sz_drewN] at hc3 hf3))) | (go_at_call 44; ((with_reducible refine (HL2.out _).mono ?_); rintro e w4 ⟨rfl, hb4⟩; obtain ⟨hc4, hf4⟩ := bcell hb4; have hz4 := hb4.size; (try simp [sz_drew, sz_drewN] at hz4); (try simp only [sz_drew, sz_drewN] at hc4 hf4))) | (go_at_call 43; ((with_reducible refine (HC.out _).mono ?_); rintro e w5 ⟨rfl, hb5⟩; obtain ⟨hc5, hf5⟩ := bcell hb5; have hz5 := hb5.size; (try simp [sz_drew, sz_drewN] at hz5); (try simp only [sz_drew, sz_drewN] at hc5 hf5))) | (go_at_call 44; ((with_reducible refine (HL3.out _).mono ?_); rintro e w6 ⟨rfl, hb6⟩; obtain ⟨hc6, hf6⟩ := bcell hb6; have hz6 := hb6.size; (try simp [sz_drew, sz_drewN] at hz6); (try simp only [sz_drew, sz_drewN] at hc6 hf6))) | (go_at_call 44; ((with_reducible refine (HL4.out _).mono ?_); rintro e w7 ⟨rfl, hb7⟩; obtain ⟨hc7, hf7⟩ := bcell hb7; have hz7 := hb7.size; (try simp [sz_drew, sz_drewN] at hz7); (try simp only [sz_drew, sz_drewN] at hc7 hf7))) | (go_at_call 45; ((with_reducible refine (HD.out _).mono ?_); rintro e w8 ⟨rfl, hb8⟩; obtain ⟨hc8, hf8⟩ := bcell hb8; have hz8 := hb8.size; (try simp [sz_drew, sz_drewN] at hz8); (try simp only [sz_drew, sz_drewN] at hc8 hf8)))))
        go_wp2
        go_ret
        exact ⟨ret_bool (by rw [← HE.out]; simp), below_tr B1 (by (repeat' (first | assumption | exact below_refl _ | refine bl_alloc ?_ _ | refine Below.setCell ?_ ?_ _ | refine below_draw ?_ | refine below_drewN ?_ _ | refine below_tr ?_ (by assumption))) <;> (first | omega | (simp; done) | (simp; omega)))⟩
      · have hd : (C == 0) = false := by simpa using hC
        have hd2 : decide (C = 0) = false := by simpa using hC
        go_wp2_with fail
        refine wp_region_noPanic ?_
        refine wp_region_held_drew (S := (fun w' => (∀ b o, b < w1.heap.size → w'.cell? ⟨b, o, none⟩ = w1.cell? ⟨b, o, none⟩) ∧ (∀ b o, b < w1.heap.size → w'.frozen? ⟨b, o, none⟩ = w1.frozen? ⟨b, o, none⟩) ∧ Below w1.heap.size w1 w')) (by kernel_rfl) (kq_draw kq_refl) (fun hS0 => ?_)
        refine wpAnyH_take (i := 0) (oi := { dst := some 23, op := _, type := _, pos := _, after := _, guard := none }) (v := ?gv1) rfl (by kernel_rfl) (by kernel_rfl) (by kernel_rfl) (fun _ _ _ h => h) (Or.inl ⟨by rfl, ?gy1⟩) (by assumption) ?_
        case gy1 => (intro w' hSw; go_simp; try with_reducible rfl)
        try simp only [Act.put, List.setIfInBounds_toArray, List.set_cons_zero, List.set_cons_succ]
        refine wpAnyH_take (i := 1) (oi := { dst := some 24, op := _, type := _, pos := _, after := _, guard := none }) (v := ?gv2) rfl (by kernel_rfl) (by kernel_rfl) (by kernel_rfl) (fun _ _ _ h => h) (Or.inl ⟨by rfl, ?gy2⟩) (by assumption) ?_
        case gy2 => (intro w' hSw; go_simp; try with_reducible rfl)
        try simp only [Act.put, List.setIfInBounds_toArray, List.set_cons_zero, List.set_cons_succ]
        refine wpAnyH_take (i := 2) (oi := { dst := some 25, op := _, type := _, pos := _, after := _, guard := none }) (v := ?gv3) rfl (by kernel_rfl) (by kernel_rfl) (by kernel_rfl) (fun _ _ _ h => h) (Or.inl ⟨by rfl, ?gy3⟩) (by assumption) ?_
        case gy3 => (intro w' hSw; go_simp; try with_reducible rfl)
        try simp only [Act.put, List.setIfInBounds_toArray, List.set_cons_zero, List.set_cons_succ]
        refine wpAnyH_take (i := 3) (oi := { dst := some 26, op := _, type := _, pos := _, after := _, guard := none }) (v := ?gv4) rfl (by kernel_rfl) (by kernel_rfl) (by kernel_rfl) (fun _ _ _ h => h) (Or.inl ⟨by rfl, ?gy4⟩) (by assumption) ?_
        case gy4 => (intro w' hSw; go_simp; try with_reducible rfl)
        try simp only [Act.put, List.setIfInBounds_toArray, List.set_cons_zero, List.set_cons_succ]
        refine wpAnyH_take (i := 4) (oi := { dst := some 27, op := _, type := _, pos := _, after := _, guard := none }) (v := ?gv5) rfl (by kernel_rfl) (by kernel_rfl) (by kernel_rfl) (fun _ _ _ h => h) (Or.inl ⟨by rfl, ?gy5⟩) (by assumption) ?_
        case gy5 => (intro w' hSw; go_simp; try with_reducible rfl)
        try simp only [Act.put, List.setIfInBounds_toArray, List.set_cons_zero, List.set_cons_succ]
        refine wpAnyH_take (i := 5) (oi := { dst := some 28, op := _, type := _, pos := _, after := _, guard := none }) (v := ?gv6) rfl (by kernel_rfl) (by kernel_rfl) (by kernel_rfl) (fun _ _ _ h => h) (Or.inl ⟨by rfl, ?gy6⟩) (by assumption) ?_
        case gy6 => (intro w' hSw; go_simp; try with_reducible rfl)
        try simp only [Act.put, List.setIfInBounds_toArray, List.set_cons_zero, List.set_cons_succ]
        refine wpAnyH_take (i := 7) (oi := { dst := some 30, op := _, type := _, pos := _, after := _, guard := none }) (v := ?gv7) rfl (by kernel_rfl) (by kernel_rfl) (by kernel_rfl) (fun _ _ _ h => h) (Or.inl ⟨by rfl, ?gy7⟩) (by assumption) ?_
        case gy7 => (intro w' hSw; go_simp; try with_reducible rfl)
        try simp only [Act.put, List.setIfInBounds_toArray, List.set_cons_zero, List.set_cons_succ]
        refine wpAnyH_take (i := 8) (oi := { dst := some 31, op := _, type := _, pos := _, after := _, guard := none }) (v := ?gv8) rfl (by kernel_rfl) (by kernel_rfl) (by kernel_rfl) (fun _ _ _ h => h) (Or.inl ⟨by rfl, ?gy8⟩) (by assumption) ?_
        case gy8 => (intro w' hSw; go_simp; try with_reducible rfl)
        try simp only [Act.put, List.setIfInBounds_toArray, List.set_cons_zero, List.set_cons_succ]
        refine wpAnyH_take (i := 9) (oi := { dst := some 32, op := _, type := _, pos := _, after := _, guard := none }) (v := ?gv9) rfl (by kernel_rfl) (by kernel_rfl) (by kernel_rfl) (fun _ _ _ h => h) (Or.inl ⟨by rfl, ?gy9⟩) (by assumption) ?_
        case gy9 => (intro w' hSw; go_simp; try with_reducible rfl)
        try simp only [Act.put, List.setIfInBounds_toArray, List.set_cons_zero, List.set_cons_succ]
        refine wpAnyH_take (i := 10) (oi := { dst := some 33, op := _, type := _, pos := _, after := _, guard := none }) (v := ?gv10) rfl (by kernel_rfl) (by kernel_rfl) (by kernel_rfl) (fun _ _ _ h => h) (Or.inl ⟨by rfl, ?gy10⟩) (by assumption) ?_
        case gy10 => (intro w' hSw; go_simp; try with_reducible rfl)
        try simp only [Act.put, List.setIfInBounds_toArray, List.set_cons_zero, List.set_cons_succ]
        refine wpAnyH_ready (rs := [6]) (by kernel_rfl) (by simp) ?_
        refine AllReadyH.cons rfl (fun K hK => ?_) AllReadyH.nil
        go_simp
        (go_at_call 44; ((with_reducible refine (HL1.out _).mono ?_); rintro e w3 ⟨rfl, hb3⟩; obtain ⟨hc3, hf3⟩ := bcell hb3; have hz3 := hb3.size; (try simp [sz_drew, sz_drewN] at hz3); (try simp only [sz_drew, sz_drewN] at hc3 hf3)))
        refine hK.out _ _ (by ((show Kq w1 _); (repeat' (first | assumption | exact kq_refl | refine kq_draw ?_ | refine kq_drewN ?_ | refine kq_alloc ?_ | refine kq_set ?_ ?_ | refine kq_step ?_ (by assumption))); (all_goals (first | omega | (simp; omega))))) (fun hS1 => ?_)
        clear hK K
        try simp only [Act.put, List.setIfInBounds_toArray, List.set_cons_zero, List.set_cons_succ]
        refine wpAnyH_ready (rs := [11]) (by kernel_rfl) (by simp) ?_
        refine AllReadyH.cons rfl (fun K hK => ?_) AllReadyH.nil
        go_simp
        (go_at_call 44; ((with_reducible refine (HL2.out _).mono ?_); rintro e w4 ⟨rfl, hb4⟩; obtain ⟨hc4, hf4⟩ := bcell hb4; have hz4 := hb4.size; (try simp [sz_drew, sz_drewN] at hz4); (try simp only [sz_drew, sz_drewN] at hc4 hf4)))
        refine hK.out _ _ (by ((show Kq w1 _); (repeat' (first | assumption | exact kq_refl | refine kq_draw ?_ | refine kq_drewN ?_ | refine kq_alloc ?_ | refine kq_set ?_ ?_ | refine kq_step ?_ (by assumption))); (all_goals (first | omega | (simp; omega))))) (fun hS2 => ?_)
        clear hK K
        try simp only [Act.put, List.setIfInBounds_toArray, List.set_cons_zero, List.set_cons_succ]
        refine wpAnyH_ready (rs := [12]) (by kernel_rfl) (by simp) ?_
        refine AllReadyH.cons rfl (fun K hK => ?_) AllReadyH.nil
        go_simp
        (go_at_call 43; ((with_reducible refine (HC.out _).mono ?_); rintro e w5 ⟨rfl, hb5⟩; obtain ⟨hc5, hf5⟩ := bcell hb5; have hz5 := hb5.size; (try simp [sz_drew, sz_drewN] at hz5); (try simp only [sz_drew, sz_drewN] at hc5 hf5)))
        refine hK.out _ _ (by ((show Kq w1 _); (repeat' (first | assumption | exact kq_refl | refine kq_draw ?_ | refine kq_drewN ?_ | refine kq_alloc ?_ | refine kq_set ?_ ?_ | refine kq_step ?_ (by assumption))); (all_goals (first | omega | (simp; omega))))) (fun hS3 => ?_)
        clear hK K
        try simp only [Act.put, List.setIfInBounds_toArray, List.set_cons_zero, List.set_cons_succ]
        refine wpAnyH_take (i := 13) (oi := { dst := some 36, op := _, type := _, pos := _, after := _, guard := none }) (v := ?gv11) rfl (by kernel_rfl) (by kernel_rfl) (by kernel_rfl) (fun _ _ _ h => h) (Or.inl ⟨by rfl, ?gy11⟩) (by assumption) ?_
        case gy11 => (intro w' hSw; go_simp; try with_reducible rfl)
        try simp only [Act.put, List.setIfInBounds_toArray, List.set_cons_zero, List.set_cons_succ]
        refine wpAnyH_take (i := 14) (oi := { dst := some 37, op := _, type := _, pos := _, after := _, guard := none }) (v := ?gv12) rfl (by kernel_rfl) (by kernel_rfl) (by kernel_rfl) (fun _ _ _ h => h) (Or.inl ⟨by rfl, ?gy12⟩) (by assumption) ?_
        case gy12 => (intro w' hSw; go_simp; try with_reducible rfl)
        try simp only [Act.put, List.setIfInBounds_toArray, List.set_cons_zero, List.set_cons_succ]
        refine wpAnyH_take (i := 15) (oi := { dst := some 38, op := _, type := _, pos := _, after := _, guard := some (14, true) }) (v := undef) rfl (by kernel_rfl) (by kernel_rfl) (by kernel_rfl) (fun _ _ _ h => h) (Or.inr ⟨by rfl, rfl⟩) (by assumption) ?_
        try simp only [Act.put, List.setIfInBounds_toArray, List.set_cons_zero, List.set_cons_succ]
        refine wpAnyH_take (i := 16) (oi := { dst := some 39, op := _, type := _, pos := _, after := _, guard := some (14, true) }) (v := undef) rfl (by kernel_rfl) (by kernel_rfl) (by kernel_rfl) (fun _ _ _ h => h) (Or.inr ⟨by rfl, rfl⟩) (by assumption) ?_
        try simp only [Act.put, List.setIfInBounds_toArray, List.set_cons_zero, List.set_cons_succ]
        refine wpAnyH_take (i := 17) (oi := { dst := some 40, op := _, type := _, pos := _, after := _, guard := some (14, true) }) (v := undef) rfl (by kernel_rfl) (by kernel_rfl) (by kernel_rfl) (fun _ _ _ h => h) (Or.inr ⟨by rfl, rfl⟩) (by assumption) ?_
        try simp only [Act.put, List.setIfInBounds_toArray, List.set_cons_zero, List.set_cons_succ]
        refine wpAnyH_take (i := 18) (oi := { dst := some 41, op := _, type := _, pos := _, after := _, guard := some (14, true) }) (v := undef) rfl (by kernel_rfl) (by kernel_rfl) (by kernel_rfl) (fun _ _ _ h => h) (Or.inr ⟨by rfl, rfl⟩) (by assumption) ?_
        try simp only [Act.put, List.setIfInBounds_toArray, List.set_cons_zero, List.set_cons_succ]
        refine wpAnyH_take (i := 19) (oi := { dst := some 42, op := _, type := _, pos := _, after := _, guard := some (14, true) }) (v := undef) rfl (by kernel_rfl) (by kernel_rfl) (by kernel_rfl) (fun _ _ _ h => h) (Or.inr ⟨by rfl, rfl⟩) (by assumption) ?_
        try simp only [Act.put, List.setIfInBounds_toArray, List.set_cons_zero, List.set_cons_succ]
        refine wpAnyH_take (i := 20) (oi := { dst := some 43, op := _, type := _, pos := _, after := _, guard := some (14, true) }) (v := undef) rfl (by kernel_rfl) (by kernel_rfl) (by kernel_rfl) (fun _ _ _ h => h) (Or.inr ⟨by rfl, rfl⟩) (by assumption) ?_
        try simp only [Act.put, List.setIfInBounds_toArray, List.set_cons_zero, List.set_cons_succ]
        refine wpAnyH_take (i := 21) (oi := { dst := some 44, op := _, type := _, pos := _, after := _, guard := some (14, true) }) (v := undef) rfl (by kernel_rfl) (by kernel_rfl) (by kernel_rfl) (fun _ _ _ h => h) (Or.inr ⟨by rfl, rfl⟩) (by assumption) ?_
        try simp only [Act.put, List.setIfInBounds_toArray, List.set_cons_zero, List.set_cons_succ]
        refine wpAnyH_take (i := 22) (oi := { dst := some 45, op := _, type := _, pos := _, after := _, guard := some (14, true) }) (v := undef) rfl (by kernel_rfl) (by kernel_rfl) (by kernel_rfl) (fun _ _ _ h => h) (Or.inr ⟨by rfl, rfl⟩) (by assumption) ?_
        try simp only [Act.put, List.setIfInBounds_toArray, List.set_cons_zero, List.set_cons_succ]
        refine wpAnyH_take (i := 23) (oi := { dst := some 46, op := _, type := _, pos := _, after := _, guard := some (14, true) }) (v := undef) rfl (by kernel_rfl) (by kernel_rfl) (by kernel_rfl) (fun _ _ _ h => h) (Or.inr ⟨by rfl, rfl⟩) (by assumption) ?_
        try simp only [Act.put, List.setIfInBounds_toArray, List.set_cons_zero, List.set_cons_succ]
        refine wpAnyH_take (i := 24) (oi := { dst := some 47, op := _, type := _, pos := _, after := _, guard := some (14, true) }) (v := undef) rfl (by kernel_rfl) (by kernel_rfl) (by kernel_rfl) (fun _ _ _ h => h) (Or.inr ⟨by rfl, rfl⟩) (by assumption) ?_
        try simp only [Act.put, List.setIfInBounds_toArray, List.set_cons_zero, List.set_cons_succ]
        refine wpAnyH_take (i := 25) (oi := { dst := some 48, op := _, type := _, pos := _, after := _, guard := some (14, true) }) (v := undef) rfl (by kernel_rfl) (by kernel_rfl) (by kernel_rfl) (fun _ _ _ h => h) (Or.inr ⟨by rfl, rfl⟩) (by assumption) ?_
        try simp only [Act.put, List.setIfInBounds_toArray, List.set_cons_zero, List.set_cons_succ]
        refine wpAnyH_take (i := 26) (oi := { dst := some 49, op := _, type := _, pos := _, after := _, guard := some (14, true) }) (v := undef) rfl (by kernel_rfl) (by kernel_rfl) (by kernel_rfl) (fun _ _ _ h => h) (Or.inr ⟨by rfl, rfl⟩) (by assumption) ?_
        try simp only [Act.put, List.setIfInBounds_toArray, List.set_cons_zero, List.set_cons_succ]
        refine wpAnyH_take (i := 27) (oi := { dst := some 50, op := _, type := _, pos := _, after := _, guard := none }) (v := ?gv13) rfl (by kernel_rfl) (by kernel_rfl) (by kernel_rfl) (fun _ _ _ h => h) (Or.inl ⟨by rfl, ?gy13⟩) (by assumption) ?_
        case gy13 => (intro w' hSw; go_simp; try with_reducible rfl)
        try simp only [Act.put, List.setIfInBounds_toArray, List.set_cons_zero, List.set_cons_succ]
        refine wpAnyH_take (i := 28) (oi := { dst := some 4, op := _, type := _, pos := _, after := _, guard := none }) (v := ?gv14) rfl (by kernel_rfl) (by kernel_rfl) (by kernel_rfl) (fun _ _ _ h => h) (Or.inl ⟨by rfl, ?gy14⟩) (by assumption) ?_
        case gy14 => (intro w' hSw; go_simp; try with_reducible rfl)
        try simp only [Act.put, List.setIfInBounds_toArray, List.set_cons_zero, List.set_cons_succ]
        refine wpAnyH_done (by kernel_rfl) (NoPanic.normal ?_) _
        go_wp2
        go_ret
        exact ⟨ret_bool (by rw [← HE.out]; simp [hC]), below_tr B1 (by (repeat' (first | assumption | exact below_refl _ | refine bl_alloc ?_ _ | refine Below.setCell ?_ ?_ _ | refine below_draw ?_ | refine below_drewN ?_ _ | refine below_tr ?_ (by assumption))) <;> (first | omega | (simp; done) | (simp; omega)))⟩
  · have hpos : 0 < h.length := by omega
    have n0 : ¬ (h.length : Int) = 0 := by omega
    have n1 : ¬ (h.length : Int) = 1 := by omega
    have n2 : ¬ (h.length : Int) = 2 := by omega
    have m0 : ((h.length : Int) == 0) = false := by simpa using n0
    have m1 : ((h.length : Int) == 1) = false := by simpa using n1
    have m2 : ((h.length : Int) == 2) = false := by simpa using n2
    have k0 : ¬ h.length = 0 := by omega
    have k1 : ¬ h.length = 1 := by omega
    have k2 : ¬ h.length = 2 := by omega
    obtain ⟨g, cap, cur, rfl, hgb, hbk, _⟩ := own_row Sp.cs_len ho1 hpos
    have HNO := Lib.hid (fun i hi hc => (stB_no h3 (w := s) (i := i) hi hc).symm.trans HEL.out)
    have HYES := Lib.hid (fun hc => (stB_yes h3 (w := s) hc).symm.trans HEL.out)
    have hn1 : (1 : Int) ≤ (h.length : Int) := by omega
    have hn2 : (h.length : Int) ≤ 1000 := by omega
    clear hbk p0 p1 HEL h3
    go_wp2_with fail
    go_loopw [53] (fun i wr => ∃ k : Nat, k ≤ h.length ∧ i = .int .i64 k ∧ Below w.heap.size w wr ∧ Blk wr w.heap.size 32 (spA s) ∧ wr.ownsRow w.heap.size 32 2 (.slice (some ⟨g, 0, none⟩) h.length cap) h.length (fl Sp.cs h) ∧ Hid (∀ i, i < k → 0 ≤ cr (gl h i) (gl h ((i + 1) % h.length)) s)) (fun i _ => h.length - (intOf i).toNat)
    case atStart => exact ⟨0, by omega, rfl, B1, x1, ho1, Lib.hid (fun i hi => absurd hi (by omega))⟩
    case round =>
      clear B1 x1 ho1 zx
      obtain ⟨k, hk, rfl, hbw, xb, hrow, HI⟩ := hrel
      have kk0 : (0 : Int) ≤ (k : Int) := Int.natCast_nonneg _
      by_cases hlt : k < h.length
      · have kk1 : (k : Int) < (h.length : Int) := by omega
        obtain ⟨r, hr⟩ : ∃ r : Nat, r = (k + 1) % h.length := ⟨_, rfl⟩
        have hrl : r < h.length := by rw [hr]; exact Nat.mod_lt _ hpos
        have hmod : ((k : Int) + 1).tmod (h.length : Int) = (r : Int) := by rw [hr]; rw [Int.tmod_eq_emod_of_nonneg (by omega)]; rw [Int.natCast_emod]; rfl
        have hw1 : IntKind.i64.wrap ((k : Int) + 1) = (k : Int) + 1 := fits_wrap (by omega)
        have r0 : (0 : Int) ≤ (r : Int) := Int.natCast_nonneg _
        have r1 : (r : Int) < (h.length : Int) := by omega
        obtain ⟨a, ha⟩ := get_lt hlt
        obtain ⟨b, hb⟩ := get_lt hrl
        obtain ⟨c0, c1, zg⟩ := own_at hrow ha
        obtain ⟨d0, d1, _⟩ := own_at hrow hb
        have ba := HQB.out a (List.mem_of_getElem? ha)
        have bb := HQB.out b (List.mem_of_getElem? hb)
        have bs := HS.out
        have HCA := Lib.hid (show cr (gl h k) (gl h ((k + 1) % h.length)) s = cr a b s by rw [← hr, gl_of ha, gl_of hb])
        have HL1 := Lib.hid (fun W => p_less b a W (bb.mono (by omega)) (ba.mono (by omega)))
        have HL2 := Lib.hid (fun W => p_less s a W (bs.mono (by omega)) (ba.mono (by omega)))
        have HC := Lib.hid (fun W => p_cross (vec b a) (vec s a) W ((vec_bd (m := 10000) (n := 10000) bb ba).mono (by omega)) ((vec_bd (m := 10000) (n := 10000) bs ba).mono (by omega)))
        rw [vcr_crR] at HC
        generalize vec b a = V1 at *
        generalize vec s a = V2 at *
        generalize cr a b s = C at *
        have p0 := xb.cell 0
        have p1 := xb.cell 1
        simp only [List.getElem?_toArray, List.getElem?_cons_zero, List.getElem?_cons_succ] at p0 p1
        have zx := xb.lt
        have xs := Blk.new wr 32 (spA a)
        have hbw2 := bl_alloc hbw (.cells (spA a) 32)
        have xb2 := xb.alloc (.cells (spA a) 32)
        have hrow2 := own_on hrow (bl_alloc (below_refl wr) (.cells (spA a) 32))
        have HR := Lib.hid hr
        have HBR := Lib.hid hb
        clear ha hb ba bb bs hr
        go_wp2_with fail
        have e0 := (own_at hrow2 HBR.out).1
        have e1 := (own_at hrow2 HBR.out).2.1
        have zg2 := (own_at hrow2 HBR.out).2.2
        have p0 := xb2.cell 0
        have p1 := xb2.cell 1
        have s0 := xs.cell 0
        have s1 := xs.cell 1
        simp only [List.getElem?_toArray, List.getElem?_cons_zero, List.getElem?_cons_succ] at p0 p1 s0 s1
        have zx2 := xb2.lt
        have zs2 := xs.lt
        generalize wr.alloc (.cells (spA a) 32) = wq at *
        clear xb hrow hbw c0 c1 d0 d1 zg zx xs
        by_cases hC : C < 0
        · have hdc : decide (C < 0) = true := decide_eq_true hC
          have HE := Lib.hid (HNO.out k hlt (by rw [HCA.out]; exact hC))
          go_region_held3 (fun w' => (∀ b o, b < wq.heap.size → w'.cell? ⟨b, o, none⟩ = wq.cell? ⟨b, o, none⟩) ∧ (∀ b o, b < wq.heap.size → w'.frozen? ⟨b, o, none⟩ = wq.frozen? ⟨b, o, none⟩) ∧ Below wq.heap.size wq w') ((first | assumption | (refine kp_of ?_; (repeat' (first | assumption | exact below_refl _ | refine bl_alloc ?_ _ | refine Below.setCell ?_ ?_ _ | refine below_draw ?_ | refine below_drewN ?_ _ | refine below_tr ?_ (by assumption))) <;> (first | omega | (simp; done) | (simp; omega))))) ((first | (go_at_call 44; ((with_reducible refine (HL1.out _).mono ?_); rintro e w3 ⟨rfl, hb3⟩; obtain ⟨hc3, hf3⟩ := bcell hb3; have hz3 := hb3.size; (try simp [sz_drew, sz_drewN] at hz3); (try simp only [sz_drew, sz_drewN] at hc3 hf3))) | (go_at_call 44; ((with_reducible refine (HL2.out _).mono ?_); rintro e w4 ⟨rfl, hb4⟩; obtain ⟨hc4, hf4⟩ := bcell hb4; have hz4 := hb4.size; (try simp [sz_drew, sz_drewN] at hz4); (try simp only [sz_drew, sz_drewN] at hc4 hf4))) | (go_at_call 43; ((with_reducible refine (HC.out _).mono ?_); rintro e w5 ⟨rfl, hb5⟩; obtain ⟨hc5, hf5⟩ := bcell hb5; have hz5 := hb5.size; (try simp [sz_drew, sz_drewN] at hz5); (try simp only [sz_drew, sz_drewN] at hc5 hf5)))))
          go_wp2
          go_ret
          exact ⟨ret_bool HE.out, below_tr hbw2 (by (repeat' (first | assumption | exact below_refl _ | refine bl_alloc ?_ _ | refine Below.setCell ?_ ?_ _ | refine below_draw ?_ | refine below_drewN ?_ _ | refine below_tr ?_ (by assumption))) <;> (first | omega | (simp; done) | (simp; omega)))⟩
        · have hdc : decide (C < 0) = false := decide_eq_false hC
          have HI2 := Lib.hid (show ∀ i, i < k + 1 → 0 ≤ cr (gl h i) (gl h ((i + 1) % h.length)) s from fun i hi => by
            by_cases e : i = k
            · subst e; rw [HCA.out]; omega
            · exact HI.out i (by omega))
          go_region_held3 (fun w' => (∀ b o, b < wq.heap.size → w'.cell? ⟨b, o, none⟩ = wq.cell? ⟨b, o, none⟩) ∧ (∀ b o, b < wq.heap.size → w'.frozen? ⟨b, o, none⟩ = wq.frozen? ⟨b, o, none⟩) ∧ Below wq.heap.size wq w') ((first | assumption | (refine kp_of ?_; (repeat' (first | assumption | exact below_refl _ | refine bl_alloc ?_ _ | refine Below.setCell ?_ ?_ _ | refine below_draw ?_ | refine below_drewN ?_ _ | refine below_tr ?_ (by assumption))) <;> (first | omega | (simp; done) | (simp; omega))))) ((first | (go_at_call 44; ((with_reducible refine (HL1.out _).mono ?_); rintro e w3 ⟨rfl, hb3⟩; obtain ⟨hc3, hf3⟩ := bcell hb3; have hz3 := hb3.size; (try simp [sz_drew, sz_drewN] at hz3); (try simp only [sz_drew, sz_drewN] at hc3 hf3))) | (go_at_call 44; ((with_reducible refine (HL2.out _).mono ?_); rintro e w4 ⟨rfl, hb4⟩; obtain ⟨hc4, hf4⟩ := bcell hb4; have hz4 := hb4.size; (try simp [sz_drew, sz_drewN] at hz4); (try simp only [sz_drew, sz_drewN] at hc4 hf4))) | (go_at_call 43; ((with_reducible refine (HC.out _).mono ?_); rintro e w5 ⟨rfl, hb5⟩; obtain ⟨hc5, hf5⟩ := bcell hb5; have hz5 := hb5.size; (try simp [sz_drew, sz_drewN] at hz5); (try simp only [sz_drew, sz_drewN] at hc5 hf5)))))
          go_wp2_with fail
          have B5 : Below wq.heap.size wq w5 := by (repeat' (first | assumption | exact below_refl _ | refine bl_alloc ?_ _ | refine Below.setCell ?_ ?_ _ | refine below_draw ?_ | refine below_drewN ?_ _ | refine below_tr ?_ (by assumption))) <;> (first | omega | (simp; done) | (simp; omega))
          have hbw5 := below_tr hbw2 B5
          have xb5 := xb2.below B5 xb2.lt
          have hrow5 := own_on hrow2 B5
          clear hbw2 xb2 hrow2 e0 e1 p0 p1 s0 s1 B5 hb3 hc3 hf3 hz3 hb4 hc4 hf4 hz4 hb5 hc5 hf5 hz5
          go_roundw
          case rel => exact ⟨k + 1, by omega, by go_num, hbw5, xb5, hrow5, HI2.out⟩
          case measure => simp [intOf]; omega
      · obtain rfl : k = h.length := by omega
        have HE := Lib.hid (HYES.out HI.out)
        go_wp2
        go_ret
        exact ⟨ret_bool HE.out, hbw⟩
end Go.Proofs.YthklgkgincebhaaGreatDoor
