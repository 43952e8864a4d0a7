/- Fell: Direction and Towards of the reference. -/
import Derived.Test.YtkeojokbpjdhpaaGreatDoorFwb
import Derived.Test.YtkeojokbpjdhpaaGreatDoorFwc
set_option linter.unusedSimpArgs false
set_option linter.unusedVariables false
namespace Go.Proofs.YtkeojokbpjdhpaaGreatDoor
open Go.RowKit

theorem r_askedTwo (A : Option Addr) (l : List Pr) (s t : Sp) (c b : Nat) (w : World) (hl : l.length ≤ 100000) (hR : Rd Pr.cs 3 w A l) (hS : Rd Sp.cs 2 w (some ⟨b, 0, none⟩) [s, t]) :
    Calls Tryz.prog 22 #[.slice A l.length c, .slice (some ⟨b, 0, none⟩) 2 2] w fun e w' => e = .returned (.int .i64 (askE l [s, t])) ∧ Below w.heap.size w w' := r_asked A _ l [s, t] c 2 w hl (by simp) hR hS
set_option maxHeartbeats 4000000 in
theorem r_falling (A : Option Addr) (l : List Pr) (c : Nat) (s t : Sp) (w : World) (hl : l.length ≤ 100000) (hR : Rd Pr.cs 3 w A l) :
    Calls Tryz.prog 74 #[.slice A l.length c, spV s, spV t] w fun e w' => e = .returned (.int .i64 (twE l s t)) ∧ Below w.heap.size w w' := by
  obtain ⟨W1, hW1⟩ : ∃ W1, W1 = (w.alloc (.cells (spA s) 24)).alloc (.cells (spA t) 24) := ⟨_, rfl⟩
  have x0 : Blk W1 w.heap.size 24 (spA s) := by rw [hW1]; exact (Blk.new w 24 (spA s)).alloc (.cells (spA t) 24)
  have y0 : Blk W1 (w.heap.size + 1) 24 (spA t) := by
    have := Blk.new (w.alloc (.cells (spA s) 24)) 24 (spA t)
    rw [World.size_alloc] at this
    rw [hW1]; exact this
  have B0 : Below w.heap.size w W1 := by rw [hW1]; exact bl_alloc (bl_alloc (below_refl w) (.cells (spA s) 24)) (.cells (spA t) 24)
  have HA := Lib.hid (fun (W : World) (hb : Below w.heap.size w W) (b : Nat) (hS : Rd Sp.cs 2 W (some ⟨b, 0, none⟩) [s, t]) => r_askedTwo A l s t c b W hl (hR.on hb) hS)
  have HO := Lib.hid (rd_two W1 s t)
  have B1 := bl_alloc B0 (.cells (spA2 s t) 24)
  have x1 := x0.alloc (.cells (spA2 s t) 24)
  have p0 := x0.cell 0
  have p1 := x0.cell 1
  have r0 := y0.cell 0
  have r1 := y0.cell 1
  simp only [List.getElem?_toArray, List.getElem?_cons_zero, List.getElem?_cons_succ] at p0 p1 r0 r1
  by_cases he : askE l [s, t] = 0
  · have HE := Lib.hid (show twE l s t = flE l s by unfold twE; rw [if_pos he])
    have ⟨hv, hs, ht⟩ := askE_two he
    have HF := Lib.hid (show flE l s = if heldB (spL l) s = true then 10 else if l.length = 0 then 8 else 0 from rfl)
    have HS := Lib.hid (fun (W : World) (A : Option Addr) (c : Nat) (hR : Rd Sp.cs 2 W A (spL l)) => r_held A (spL l) c s W (by rw [spL_len]; have := vP_len hv; omega) (vP_bd hv) (isS_bd hs) hR)
    have HP := Lib.hid (fun (W : World) (hb : Below w.heap.size w W) => r_spots A l c W hl (hR.on hb))
    rw [he] at HA
    rw [HE.out]
    clear he hv hs ht HE
    cases hh : heldB (spL l) s
    · rw [hh] at HF HS
      clear hh
      go_enter Tryz.func74, Tryz.ntmps74
      go_wp2_with fail
      have hz1 : W1.heap.size = w.heap.size + 1 + 1 := by rw [hW1]; simp
      have HO2 := Lib.hid (hz1 ▸ HO.out)
      have HZ := Lib.hid hz1
      clear hz1
      rw [show ((w.alloc (.cells #[.int .i64 s.x, .int .i64 s.y] 24)).alloc (.cells #[.int .i64 t.x, .int .i64 t.y] 24)) = W1 from hW1.symm]
      clear hW1
      refine (HA.out _ B1 _ HO2.out).mono ?_
      rintro e w1 ⟨rfl, hb1⟩
      have BX := below_tr B1 hb1
      have x2 := x1.below hb1 x1.lt
      have p0 := x2.cell 0
      have p1 := x2.cell 1
      simp only [List.getElem?_toArray, List.getElem?_cons_zero, List.getElem?_cons_succ] at p0 p1
      have lx := x2.lt
      clear x0 y0 x1 B0 B1 hb1 HO HO2 HA
      go_wp2_with fail
      go_region_held3 (fun w' => (∀ b o, b < w1.heap.size → w'.cell? ⟨b, o, none⟩ = w1.cell? ⟨b, o, none⟩) ∧ (∀ b o, b < w1.heap.size → w'.frozen? ⟨b, o, none⟩ = w1.frozen? ⟨b, o, none⟩) ∧ Below w1.heap.size w1 w') ((first | assumption | (refine kp_of ?_; (repeat' (first | assumption | exact below_refl _ | refine bl_alloc ?_ _ | refine Below.setCell ?_ ?_ _ | refine below_draw ?_ | refine below_drewN ?_ _ | refine below_tr ?_ (by assumption))) <;> (first | omega | (simp; done) | (simp; omega))))) ((first | (go_at_call 24; ((with_reducible refine (HP.out _ (by (repeat' (first | assumption | exact below_refl _ | refine bl_alloc ?_ _ | refine Below.setCell ?_ ?_ _ | refine below_draw ?_ | refine below_drewN ?_ _ | refine below_tr ?_ (by assumption))) <;> (first | omega | (simp; done) | (simp; omega)))).mono ?_); rintro e w3 ⟨v3, rfl, ho3, hb3⟩; obtain ⟨A3, c3, rfl, hR3⟩ := own_rd Sp.cs_len ho3; obtain ⟨hc3, hf3⟩ := bcell hb3; have hz3 := hb3.size; (try simp [sz_drew, sz_drewN] at hz3); (try simp only [sz_drew, sz_drewN] at hc3 hf3))) | (go_at_call 23; ((with_reducible refine (HS.out _ _ _ hR3).mono ?_); rintro e w4 ⟨rfl, hb4⟩; obtain ⟨hc4, hf4⟩ := bcell hb4; have hz4 := hb4.size; (try simp [sz_drew, sz_drewN] at hz4); (try simp only [sz_drew, sz_drewN] at hc4 hf4)))))
      by_cases h0 : l.length = 0
      · have h0' : (l.length : Int) = 0 := by omega
        have hq : ((l.length : Int) == 0) = true := by simpa using h0
        have HE := Lib.hid (show flE l s = 8 by rw [HF.out, if_pos h0]; rfl)
        go_wp2
        go_ret
        exact ⟨ret_int HE.out.symm, below_tr BX (by (repeat' (first | assumption | exact below_refl _ | refine bl_alloc ?_ _ | refine Below.setCell ?_ ?_ _ | refine below_draw ?_ | refine below_drewN ?_ _ | refine below_tr ?_ (by assumption))) <;> (first | omega | (simp; done) | (simp; omega)))⟩
      · have hq : ((l.length : Int) == 0) = false := by simpa using h0
        have h0' : ¬ (l.length : Int) = 0 := by omega
        have HE := Lib.hid (show flE l s = 0 by rw [HF.out, if_neg h0]; rfl)
        go_wp2
        go_ret
        exact ⟨ret_int HE.out.symm, below_tr BX (by (repeat' (first | assumption | exact below_refl _ | refine bl_alloc ?_ _ | refine Below.setCell ?_ ?_ _ | refine below_draw ?_ | refine below_drewN ?_ _ | refine below_tr ?_ (by assumption))) <;> (first | omega | (simp; done) | (simp; omega)))⟩
    · rw [hh] at HF HS
      clear hh
      have HE := Lib.hid (show flE l s = 10 by rw [HF.out]; rfl)
      go_enter Tryz.func74, Tryz.ntmps74
      go_wp2_with fail
      have hz1 : W1.heap.size = w.heap.size + 1 + 1 := by rw [hW1]; simp
      have HO2 := Lib.hid (hz1 ▸ HO.out)
      have HZ := Lib.hid hz1
      clear hz1
      rw [show ((w.alloc (.cells #[.int .i64 s.x, .int .i64 s.y] 24)).alloc (.cells #[.int .i64 t.x, .int .i64 t.y] 24)) = W1 from hW1.symm]
      clear hW1
      refine (HA.out _ B1 _ HO2.out).mono ?_
      rintro e w1 ⟨rfl, hb1⟩
      have BX := below_tr B1 hb1
      have x2 := x1.below hb1 x1.lt
      have p0 := x2.cell 0
      have p1 := x2.cell 1
      simp only [List.getElem?_toArray, List.getElem?_cons_zero, List.getElem?_cons_succ] at p0 p1
      have lx := x2.lt
      clear x0 y0 x1 B0 B1 hb1 HO HO2 HA
      go_wp2_with fail
      go_region_held3 (fun w' => (∀ b o, b < w1.heap.size → w'.cell? ⟨b, o, none⟩ = w1.cell? ⟨b, o, none⟩) ∧ (∀ b o, b < w1.heap.size → w'.frozen? ⟨b, o, none⟩ = w1.frozen? ⟨b, o, none⟩) ∧ Below w1.heap.size w1 w') ((first | assumption | (refine kp_of ?_; (repeat' (first | assumption | exact below_refl _ | refine bl_alloc ?_ _ | refine Below.setCell ?_ ?_ _ | refine below_draw ?_ | refine below_drewN ?_ _ | refine below_tr ?_ (by assumption))) <;> (first | omega | (simp; done) | (simp; omega))))) ((first | (go_at_call 24; ((with_reducible refine (HP.out _ (by (repeat' (first | assumption | exact below_refl _ | refine bl_alloc ?_ _ | refine Below.setCell ?_ ?_ _ | refine below_draw ?_ | refine below_drewN ?_ _ | refine below_tr ?_ (by assumption))) <;> (first | omega | (simp; done) | (simp; omega)))).mono ?_); rintro e w3 ⟨v3, rfl, ho3, hb3⟩; obtain ⟨A3, c3, rfl, hR3⟩ := own_rd Sp.cs_len ho3; obtain ⟨hc3, hf3⟩ := bcell hb3; have hz3 := hb3.size; (try simp [sz_drew, sz_drewN] at hz3); (try simp only [sz_drew, sz_drewN] at hc3 hf3))) | (go_at_call 23; ((with_reducible refine (HS.out _ _ _ hR3).mono ?_); rintro e w4 ⟨rfl, hb4⟩; obtain ⟨hc4, hf4⟩ := bcell hb4; have hz4 := hb4.size; (try simp [sz_drew, sz_drewN] at hz4); (try simp only [sz_drew, sz_drewN] at hc4 hf4)))))
      go_wp2
      go_ret
      exact ⟨ret_int HE.out.symm, below_tr BX (by (repeat' (first | assumption | exact below_refl _ | refine bl_alloc ?_ _ | refine Below.setCell ?_ ?_ _ | refine below_draw ?_ | refine below_drewN ?_ _ | refine below_tr ?_ (by assumption))) <;> (first | omega | (simp; done) | (simp; omega)))⟩
  · have HE := Lib.hid (show twE l s t = askE l [s, t] by unfold twE; rw [if_neg he])
    rw [HE.out]
    have hn := he
    obtain ⟨E, hE⟩ : ∃ E, E = askE l [s, t] := ⟨_, rfl⟩
    rw [← hE] at HA hn ⊢
    clear he hE HE
    go_enter Tryz.func74, Tryz.ntmps74
    go_wp2_with fail
    have hz1 : W1.heap.size = w.heap.size + 1 + 1 := by rw [hW1]; simp
    have HO2 := Lib.hid (hz1 ▸ HO.out)
    have HZ := Lib.hid hz1
    clear hz1
    rw [show ((w.alloc (.cells #[.int .i64 s.x, .int .i64 s.y] 24)).alloc (.cells #[.int .i64 t.x, .int .i64 t.y] 24)) = W1 from hW1.symm]
    clear hW1
    refine (HA.out _ B1 _ HO2.out).mono ?_
    rintro e w1 ⟨rfl, hb1⟩
    have BX := below_tr B1 hb1
    have x2 := x1.below hb1 x1.lt
    have p0 := x2.cell 0
    have p1 := x2.cell 1
    simp only [List.getElem?_toArray, List.getElem?_cons_zero, List.getElem?_cons_succ] at p0 p1
    have lx := x2.lt
    clear x0 y0 x1 B0 B1 hb1 HO HO2 HA
    go_wp2
    go_ret
    exact ⟨rfl, BX⟩
def drZ (l : List Pr) (s : Sp) : Sp := if drE l s = 0 then dirZ (spL l) s else ⟨0, 0⟩
theorem twE_same (l : List Pr) (s : Sp) : twE l s s = drE l s := by unfold twE drE; rw [askE_same]
theorem drE_zero {l : List Pr} {s : Sp} (h : drE l s = 0) : vP l = true ∧ isS s = true ∧ ¬ Held (spL l) s ∧ spL l ≠ [] := by
  unfold drE at h
  split at h
  · rename_i h1
    obtain ⟨h2, h3⟩ := stE_z h1
    rcases (flE_cases (l := l) (s := s)) with k | ⟨_, k2, k3⟩
    · exact absurd h k
    · exact ⟨h2, h3, k2, k3⟩
  · rename_i h1; exact absurd h h1
theorem twE_zero {l : List Pr} {s t : Sp} (h : twE l s t = 0) : vP l = true ∧ isS s = true ∧ isS t = true ∧ ¬ Held (spL l) s ∧ spL l ≠ [] := by
  unfold twE at h
  split at h
  · rename_i h1
    obtain ⟨h2, h3, h4⟩ := askE_two h1
    rcases (flE_cases (l := l) (s := s)) with k | ⟨_, k2, k3⟩
    · exact absurd h k
    · exact ⟨h2, h3, h4, k2, k3⟩
  · rename_i h1; exact absurd h h1
theorem p_DirectionZ (A : Option Addr) (l : List Pr) (c : Nat) (s : Sp) (w : World) (hl : l.length ≤ 100000) (h12 : vP l = true → l.length ≤ 24) (hR : Rd Pr.cs 3 w A l) :
    Calls Tryz.prog 11 #[.slice A l.length c, spV s] w fun e w' => e = .returned (.tuple #[spV (drZ l s), .int .i64 (drE l s)]) ∧ Below w.heap.size w w' := by
  refine (p_Direction A l c s w hl h12 hR).mono ?_
  rintro e w' ⟨d, rfl, h1, h2, hb⟩
  refine ⟨?_, hb⟩
  unfold drZ
  by_cases h : drE l s = 0
  · obtain ⟨a1, a2, a3, a4⟩ := drE_zero h
    rw [if_pos h, dirP_uniq (h1 h) (dirZ_dir (vP_bd a1) (vP_nodup a1) a4 a3)]
  · rw [if_neg h, h2 h]
set_option maxHeartbeats 4000000 in
theorem r_Towards (A : Option Addr) (l : List Pr) (c : Nat) (s t : Sp) (w : World) (hl : l.length ≤ 100000) (hR : Rd Pr.cs 3 w A l) :
    Calls Tryz.prog 50 #[.slice A l.length c, spV s, spV t] w fun e w' => e = .returned (.tuple #[.bool (twD l s t), .int .i64 (twE l s t)]) ∧ Below w.heap.size w w' := by
  obtain ⟨W1, hW1⟩ : ∃ W1, W1 = (w.alloc (.cells (spA s) 24)).alloc (.cells (spA t) 24) := ⟨_, rfl⟩
  have x0 : Blk W1 w.heap.size 24 (spA s) := by rw [hW1]; exact (Blk.new w 24 (spA s)).alloc (.cells (spA t) 24)
  have y0 : Blk W1 (w.heap.size + 1) 24 (spA t) := by
    have := Blk.new (w.alloc (.cells (spA s) 24)) 24 (spA t)
    rw [World.size_alloc] at this
    rw [hW1]; exact this
  have B0 : Below w.heap.size w W1 := by rw [hW1]; exact bl_alloc (bl_alloc (below_refl w) (.cells (spA s) 24)) (.cells (spA t) 24)
  have HF := Lib.hid (fun (W : World) (hb : Below w.heap.size w W) => r_falling A l c s t W hl (hR.on hb))
  have p0 := x0.cell 0
  have p1 := x0.cell 1
  have r0 := y0.cell 0
  have r1 := y0.cell 1
  simp only [List.getElem?_toArray, List.getElem?_cons_zero, List.getElem?_cons_succ] at p0 p1 r0 r1
  have lx := x0.lt
  have ly := y0.lt
  by_cases he : twE l s t = 0
  · obtain ⟨hv, hs, ht, hnh, hne⟩ := twE_zero he
    have HD := Lib.hid (show twD l s t = twZ (spL l) s t by unfold twD; rw [if_pos he])
    have HS := Lib.hid (fun (W : World) (A : Option Addr) (c : Nat) (hR : Rd Sp.cs 2 W A (spL l)) => r_direction A (spL l) c s W (by rw [spL_len]; have := vP_len hv; omega) hne (vP_bd hv) (vP_nodup hv) (isS_bd hs) hnh hR)
    have HP := Lib.hid (fun (W : World) (hb : Below w.heap.size w W) => r_spots A l c W hl (hR.on hb))
    have bd := dirP_bd (vP_bd hv) (vP_nodup hv) hne hnh (isS_bd hs) (dirZ_dir (vP_bd hv) (vP_nodup hv) hne hnh)
    have bu : Bd 20000 (vec t s) := vec_bd (m := 10000) (n := 10000) (isS_bd ht) (isS_bd hs)
    have HM := Lib.hid (fun W => r_minus t s W ((isS_bd ht).mono (by omega)) ((isS_bd hs).mono (by omega)))
    have HT := Lib.hid (fun W => r_Dot (dirZ (spL l) s) (vec t s) W (bd.mono (by omega)) (bu.mono (by omega)))
    rw [HD.out]
    rw [he] at HF ⊢
    unfold twZ
    clear he hv hs ht hnh hne HD bd bu
    generalize dirZ (spL l) s = d at *
    generalize vec t s = u at *
    generalize vdot d u = D at *
    go_enter Tryz.func50, Tryz.ntmps50
    go_wp2_with fail
    rw [show ((w.alloc (.cells #[.int .i64 s.x, .int .i64 s.y] 24)).alloc (.cells #[.int .i64 t.x, .int .i64 t.y] 24)) = W1 from hW1.symm]
    clear hW1
    refine (HF.out _ B0).mono ?_
    rintro e w2 ⟨rfl, hb2⟩
    have BY := below_tr B0 hb2
    have x3 := x0.below hb2 x0.lt
    have y3 := y0.below hb2 y0.lt
    have p0 := x3.cell 0
    have p1 := x3.cell 1
    have r0 := y3.cell 0
    have r1 := y3.cell 1
    simp only [List.getElem?_toArray, List.getElem?_cons_zero, List.getElem?_cons_succ] at p0 p1 r0 r1
    have lx3 := x3.lt
    have ly3 := y3.lt
    go_wp2_with fail
    go_region_held3 (fun w' => (∀ b o, b < w2.heap.size → w'.cell? ⟨b, o, none⟩ = w2.cell? ⟨b, o, none⟩) ∧ (∀ b o, b < w2.heap.size → w'.frozen? ⟨b, o, none⟩ = w2.frozen? ⟨b, o, none⟩) ∧ Below w2.heap.size w2 w') ((first | assumption | (refine kp_of ?_; (repeat' (first | assumption | exact below_refl _ | refine bl_alloc ?_ _ | refine Below.setCell ?_ ?_ _ | refine below_draw ?_ | refine below_drewN ?_ _ | refine below_tr ?_ (by assumption))) <;> (first | omega | (simp; done) | (simp; omega))))) ((first | (go_at_call 24; ((with_reducible refine (HP.out _ (by (repeat' (first | assumption | exact below_refl _ | refine bl_alloc ?_ _ | refine Below.setCell ?_ ?_ _ | refine below_draw ?_ | refine below_drewN ?_ _ | refine below_tr ?_ (by assumption))) <;> (first | omega | (simp; done) | (simp; omega)))).mono ?_); rintro e w3 ⟨v3, rfl, ho3, hb3⟩; obtain ⟨A3, c3, rfl, hR3⟩ := own_rd Sp.cs_len ho3; obtain ⟨hc3, hf3⟩ := bcell hb3; have hz3 := hb3.size; (try simp [sz_drew, sz_drewN] at hz3); (try simp only [sz_drew, sz_drewN] at hc3 hf3))) | (go_at_call 75; ((with_reducible refine (HS.out _ _ _ hR3).mono ?_); rintro e w4 ⟨rfl, hb4⟩; obtain ⟨hc4, hf4⟩ := bcell hb4; have hz4 := hb4.size; (try simp [sz_drew, sz_drewN] at hz4); (try simp only [sz_drew, sz_drewN] at hc4 hf4))) | (go_at_call 72; ((with_reducible refine (HM.out _).mono ?_); rintro e w5 ⟨rfl, hb5⟩; obtain ⟨hc5, hf5⟩ := bcell hb5; have hz5 := hb5.size; (try simp [sz_drew, sz_drewN] at hz5); (try simp only [sz_drew, sz_drewN] at hc5 hf5))) | (go_at_call 73; ((with_reducible refine (HT.out _).mono ?_); rintro e w6 ⟨rfl, hb6⟩; obtain ⟨hc6, hf6⟩ := bcell hb6; have hz6 := hb6.size; (try simp [sz_drew, sz_drewN] at hz6); (try simp only [sz_drew, sz_drewN] at hc6 hf6)))))
    all_goals
      go_wp2
      go_ret2
      exact ⟨rfl, by (repeat' (first | assumption | exact below_refl _ | refine bl_alloc ?_ _ | refine Below.setCell ?_ ?_ _ | refine below_draw ?_ | refine below_drewN ?_ _ | refine below_tr ?_ (by assumption))) <;> (first | omega | (simp; done) | (simp; omega))⟩
  · have HD := Lib.hid (show twD l s t = false by unfold twD; rw [if_neg he])
    rw [HD.out]
    obtain ⟨E, hE⟩ : ∃ E, E = twE l s t := ⟨_, rfl⟩
    have hn := he
    rw [← hE] at HF hn ⊢
    clear he hE HD
    go_enter Tryz.func50, Tryz.ntmps50
    go_wp2_with fail
    rw [show ((w.alloc (.cells #[.int .i64 s.x, .int .i64 s.y] 24)).alloc (.cells #[.int .i64 t.x, .int .i64 t.y] 24)) = W1 from hW1.symm]
    clear hW1
    refine (HF.out _ B0).mono ?_
    rintro e w2 ⟨rfl, hb2⟩
    have BY := below_tr B0 hb2
    go_wp2
    go_ret2
    exact ⟨rfl, BY⟩
end Go.Proofs.YtkeojokbpjdhpaaGreatDoor
