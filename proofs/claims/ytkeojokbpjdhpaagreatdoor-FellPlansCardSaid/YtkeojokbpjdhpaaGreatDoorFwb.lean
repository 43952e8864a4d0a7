/- Fell: Towards of the program. -/
import Derived.Test.YtkeojokbpjdhpaaGreatDoorFz3
import Derived.Test.YtkeojokbpjdhpaaGreatDoorFwa
set_option linter.unusedSimpArgs false
set_option linter.unusedVariables false
namespace Go.Proofs.YtkeojokbpjdhpaaGreatDoor
open Go.RowKit

def spA2 (s t : Sp) : Array Value := #[.int .i64 s.x, .int .i64 s.y, .int .i64 t.x, .int .i64 t.y]
theorem rd_two (w : World) (s t : Sp) : Rd Sp.cs 2 (w.alloc (.cells (spA2 s t) 24)) (some ⟨w.heap.size, 0, none⟩) [s, t] := by
  refine row_rd (cur := spA2 s t) (Blk.new w 24 (spA2 s t)) ?_
  intro k x hx r u hu
  rcases k with _ | _ | k
  · simp at hx; subst hx
    rcases r with _ | _ | r <;> simp [Sp.cs, spA2] at hu ⊢ <;> exact hu
  · simp at hx; subst hx
    rcases r with _ | _ | r <;> simp [Sp.cs, spA2] at hu ⊢ <;> exact hu
  · simp at hx
theorem p_directionZ (A : Option Addr) (l : List Sp) (c : Nat) (s : Sp) (w : World) (h12 : l.length ≤ 24) (hne : l ≠ []) (hbd : ∀ x ∈ l, Bd 10000 x) (hnd : l.Nodup) (hs : Bd 10000 s) (hw : ¬ Held l s) (hR : Rd Sp.cs 2 w A l) :
    Calls Tryz.prog 30 #[.slice A l.length c, spV s] w fun e w' => e = .returned (spV (dirZ l s)) ∧ Below w.heap.size w w' := by
  refine (p_direction A l c s w h12 hne hbd hnd hs hw hR).mono ?_
  rintro e w' ⟨d, rfl, hd, hb⟩
  exact ⟨by rw [dirP_uniq hd (dirZ_dir hbd hnd hne hw)], hb⟩
set_option maxHeartbeats 4000000 in
theorem p_towards (A : Option Addr) (l : List Sp) (c : Nat) (s t : Sp) (w : World) (h12 : l.length ≤ 24) (hne : l ≠ []) (hbd : ∀ x ∈ l, Bd 10000 x) (hnd : l.Nodup) (hs : Bd 10000 s) (ht : Bd 10000 t) (hw : ¬ Held l s) (hR : Rd Sp.cs 2 w A l) :
    Calls Tryz.prog 21 #[.slice A l.length c, spV s, spV t] w fun e w' => e = .returned (.bool (twZ l s t)) ∧ Below w.heap.size w w' := by
  have bd := dirP_bd hbd hnd hne hw hs (dirZ_dir hbd hnd hne hw)
  have bu : Bd 20000 (vec t s) := vec_bd (m := 10000) (n := 10000) ht hs
  have HD := Lib.hid (fun (W : World) (hW : Below w.heap.size w W) => p_directionZ A l c s W h12 hne hbd hnd hs hw (hR.on hW))
  have HL := Lib.hid (fun W => p_less t s W (ht.mono (by omega)) (hs.mono (by omega)))
  have HT := Lib.hid (fun W => p_dot (dirZ l s) (vec t s) W (bd.mono (by omega)) (bu.mono (by omega)))
  unfold twZ
  clear bd bu hbd hnd hne hs ht hw hR h12
  generalize dirZ l s = d at *
  generalize vec t s = u at *
  generalize vdot d u = D at *
  obtain ⟨W1, hW1⟩ : ∃ W1, W1 = (w.alloc (.cells (spA s) 24)).alloc (.cells (spA t) 24) := ⟨_, rfl⟩
  have x0 : Blk W1 w.heap.size 24 (spA s) := by rw [hW1]; exact (Blk.new w 24 (spA s)).alloc (.cells (spA t) 24)
  have y0 : Blk W1 (w.heap.size + 1) 24 (spA t) := by
    have := Blk.new (w.alloc (.cells (spA s) 24)) 24 (spA t)
    rw [World.size_alloc] at this
    rw [hW1]; exact this
  have B0 : Below w.heap.size w W1 := by rw [hW1]; exact bl_alloc (bl_alloc (below_refl w) (.cells (spA s) 24)) (.cells (spA t) 24)
  have p0 := x0.cell 0
  have p1 := x0.cell 1
  have q0 := y0.cell 0
  have q1 := y0.cell 1
  simp only [List.getElem?_toArray, List.getElem?_cons_zero, List.getElem?_cons_succ] at p0 p1 q0 q1
  have zx := x0.lt
  have zy := y0.lt
  go_enter Tryz.func21, Tryz.ntmps21
  go_wp2_with fail
  rw [show ((w.alloc (.cells #[.int .i64 s.x, .int .i64 s.y] 24)).alloc (.cells #[.int .i64 t.x, .int .i64 t.y] 24)) = W1 from hW1.symm]
  clear hW1
  go_region_held3 (fun w' => (∀ b o, b < W1.heap.size → w'.cell? ⟨b, o, none⟩ = W1.cell? ⟨b, o, none⟩) ∧ (∀ b o, b < W1.heap.size → w'.frozen? ⟨b, o, none⟩ = W1.frozen? ⟨b, o, none⟩) ∧ Below W1.heap.size W1 w') ((first | assumption | (refine kp_of ?_; (repeat' (first | assumption | exact below_refl _ | refine bl_alloc ?_ _ | refine Below.setCell ?_ ?_ _ | refine below_draw ?_ | refine below_drewN ?_ _ | refine below_tr ?_ (by assumption))) <;> (first | omega | (simp; done) | (simp; omega))))) ((first | (go_at_call 30; ((with_reducible refine (HD.out _ (by (repeat' (first | assumption | exact below_refl _ | refine bl_alloc ?_ _ | refine Below.setCell ?_ ?_ _ | refine below_draw ?_ | refine below_drewN ?_ _ | refine below_tr ?_ (by assumption))) <;> (first | omega | (simp; done) | (simp; omega)))).mono ?_); rintro e w3 ⟨rfl, hb3⟩; obtain ⟨hc3, hf3⟩ := bcell hb3; have hz3 := hb3.size; (try simp [sz_drew, sz_drewN] at hz3); (try simp only [sz_drew, sz_drewN] at hc3 hf3))) | (go_at_call 39; ((with_reducible refine (HL.out _).mono ?_); rintro e w4 ⟨rfl, hb4⟩; obtain ⟨hc4, hf4⟩ := bcell hb4; have hz4 := hb4.size; (try simp [sz_drew, sz_drewN] at hz4); (try simp only [sz_drew, sz_drewN] at hc4 hf4))) | (go_at_call 40; ((with_reducible refine (HT.out _).mono ?_); rintro e w5 ⟨rfl, hb5⟩; obtain ⟨hc5, hf5⟩ := bcell hb5; have hz5 := hb5.size; (try simp [sz_drew, sz_drewN] at hz5); (try simp only [sz_drew, sz_drewN] at hc5 hf5)))))
  go_wp2
  go_ret
  exact ⟨rfl, below_tr B0 (by (repeat' (first | assumption | exact below_refl _ | refine bl_alloc ?_ _ | refine Below.setCell ?_ ?_ _ | refine below_draw ?_ | refine below_drewN ?_ _ | refine below_tr ?_ (by assumption))) <;> (first | omega | (simp; done) | (simp; omega)))⟩
def twE (l : List Pr) (s t : Sp) : Int := if askE l [s, t] = 0 then flE l s else askE l [s, t]
def twD (l : List Pr) (s t : Sp) : Bool := if twE l s t = 0 then twZ (spL l) s t else false
theorem askE_two {l : List Pr} {s t : Sp} (h : askE l [s, t] = 0) : vP l = true ∧ isS s = true ∧ isS t = true := by
  obtain ⟨h1, h2⟩ := askE_z h
  simp at h2
  exact ⟨h1, h2.1, h2.2⟩
theorem askE_same (l : List Pr) (s : Sp) : askE l [s, s] = stE l s := by
  unfold stE askE; simp
theorem p_askedTwo (A : Option Addr) (l : List Pr) (s t : Sp) (c b : Nat) (w : World) (hl : l.length ≤ 100000) (hR : Rd Pr.cs 3 w A l) (hS : Rd Sp.cs 2 w (some ⟨b, 0, none⟩) [s, t]) :
    Calls Tryz.prog 13 #[.slice A l.length c, .slice (some ⟨b, 0, none⟩) 2 2] w fun e w' => e = .returned (.int .i64 (askE l [s, t])) ∧ Below w.heap.size w w' := p_asked A _ l [s, t] c 2 w hl (by simp) hR hS
set_option maxHeartbeats 4000000 in
theorem p_Towards (A : Option Addr) (l : List Pr) (c : Nat) (s t : Sp) (w : World) (hl : l.length ≤ 100000) (h12 : vP l = true → l.length ≤ 24) (hR : Rd Pr.cs 3 w A l) :
    Calls Tryz.prog 28 #[.slice A l.length c, spV s, spV t] w fun e w' => e = .returned (.tuple #[.bool (twD l s t), .int .i64 (twE l s t)]) ∧ Below w.heap.size w w' := by
  obtain ⟨W1, hW1⟩ : ∃ W1, W1 = (w.alloc (.cells (spA s) 24)).alloc (.cells (spA t) 24) := ⟨_, rfl⟩
  have x0 : Blk W1 w.heap.size 24 (spA s) := by rw [hW1]; exact (Blk.new w 24 (spA s)).alloc (.cells (spA t) 24)
  have y0 : Blk W1 (w.heap.size + 1) 24 (spA t) := by
    have := Blk.new (w.alloc (.cells (spA s) 24)) 24 (spA t)
    rw [World.size_alloc] at this
    rw [hW1]; exact this
  have B0 : Below w.heap.size w W1 := by rw [hW1]; exact bl_alloc (bl_alloc (below_refl w) (.cells (spA s) 24)) (.cells (spA t) 24)
  have HA := Lib.hid (fun (W : World) (hb : Below w.heap.size w W) (b : Nat) (hS : Rd Sp.cs 2 W (some ⟨b, 0, none⟩) [s, t]) => p_askedTwo A l s t c b W hl (hR.on hb) hS)
  have HO := Lib.hid (rd_two W1 s t)
  have B1 := bl_alloc B0 (.cells (spA2 s t) 24)
  have x1 := x0.alloc (.cells (spA2 s t) 24)
  have y1 := y0.alloc (.cells (spA2 s t) 24)
  have p0 := x0.cell 0
  have p1 := x0.cell 1
  have r0 := y0.cell 0
  have r1 := y0.cell 1
  simp only [List.getElem?_toArray, List.getElem?_cons_zero, List.getElem?_cons_succ] at p0 p1 r0 r1
  by_cases he : askE l [s, t] = 0
  · have HE := Lib.hid (show twE l s t = flE l s by unfold twE; rw [if_pos he])
    have ⟨hv, hs, ht⟩ := askE_two he
    have HF := Lib.hid (fun (W : World) (hb : Below w.heap.size w W) => p_falls A l c s W (h12 hv) hv hs (hR.on hb))
    rw [he] at HA
    rcases (flE_cases (l := l) (s := s)) with hn | ⟨hz, hnh, hne⟩
    · have HD := Lib.hid (show twD l s t = false by unfold twD; rw [HE.out, if_neg hn])
      rw [HD.out, HE.out]
      obtain ⟨E, hE⟩ : ∃ E, E = flE l s := ⟨_, rfl⟩
      rw [← hE] at HF hn ⊢
      clear he hE hv hs ht HE HD
      go_enter Tryz.func28, Tryz.ntmps28
      go_wp2_with fail
      have hz1 : W1.heap.size = w.heap.size + 1 + 1 := by rw [hW1]; simp
      have HO2 := Lib.hid (hz1 ▸ HO.out)
      have HZ := Lib.hid hz1
      clear hz1
      rw [show ((w.alloc (.cells #[.int .i64 s.x, .int .i64 s.y] 24)).alloc (.cells #[.int .i64 t.x, .int .i64 t.y] 24)) = W1 from hW1.symm]
      clear hW1
      refine (HA.out _ B1 _ HO2.out).mono ?_
      rintro e w1 ⟨rfl, hb1⟩
      have BX := below_tr B1 hb1
      have x2 := x1.below hb1 x1.lt
      have y2 := y1.below hb1 y1.lt
      have p0 := x2.cell 0
      have p1 := x2.cell 1
      have r0 := y2.cell 0
      have r1 := y2.cell 1
      simp only [List.getElem?_toArray, List.getElem?_cons_zero, List.getElem?_cons_succ] at p0 p1 r0 r1
      have lx := x2.lt
      have ly := y2.lt
      clear x0 y0 x1 y1 B0 B1 hb1 HO HO2 HA
      go_wp2_with fail
      refine (HF.out _ BX).mono ?_
      rintro e w2 ⟨rfl, hb2⟩
      have BY := below_tr BX hb2
      have x3 := x2.below hb2 x2.lt
      have y3 := y2.below hb2 y2.lt
      have p0 := x3.cell 0
      have p1 := x3.cell 1
      have r0 := y3.cell 0
      have r1 := y3.cell 1
      simp only [List.getElem?_toArray, List.getElem?_cons_zero, List.getElem?_cons_succ] at p0 p1 r0 r1
      have lx3 := x3.lt
      have ly3 := y3.lt
      go_wp2
      go_ret2
      exact ⟨rfl, by (repeat' (first | assumption | exact below_refl _ | refine bl_alloc ?_ _ | refine Below.setCell ?_ ?_ _ | refine below_draw ?_ | refine below_drewN ?_ _ | refine below_tr ?_ (by assumption))) <;> (first | omega | (simp; done) | (simp; omega))⟩
    · have HS := Lib.hid (fun (W : World) (A : Option Addr) (c : Nat) (hR : Rd Sp.cs 2 W A (spL l)) => p_towards A (spL l) c s t W (by rw [spL_len]; exact h12 hv) hne (vP_bd hv) (vP_nodup hv) (isS_bd hs) (isS_bd ht) hnh hR)
      have HP := Lib.hid (fun (W : World) (hb : Below w.heap.size w W) => p_spots A l c W hl (hR.on hb))
      have HD := Lib.hid (show twD l s t = twZ (spL l) s t by unfold twD; rw [HE.out, if_pos hz])
      rw [HD.out, HE.out, hz]
      rw [hz] at HF
      clear he hv hs ht hz hnh hne HE HD
      generalize twZ (spL l) s t = TT at *
      go_enter Tryz.func28, Tryz.ntmps28
      go_wp2_with fail
      have hz1 : W1.heap.size = w.heap.size + 1 + 1 := by rw [hW1]; simp
      have HO2 := Lib.hid (hz1 ▸ HO.out)
      have HZ := Lib.hid hz1
      clear hz1
      rw [show ((w.alloc (.cells #[.int .i64 s.x, .int .i64 s.y] 24)).alloc (.cells #[.int .i64 t.x, .int .i64 t.y] 24)) = W1 from hW1.symm]
      clear hW1
      refine (HA.out _ B1 _ HO2.out).mono ?_
      rintro e w1 ⟨rfl, hb1⟩
      have BX := below_tr B1 hb1
      have x2 := x1.below hb1 x1.lt
      have y2 := y1.below hb1 y1.lt
      have p0 := x2.cell 0
      have p1 := x2.cell 1
      have r0 := y2.cell 0
      have r1 := y2.cell 1
      simp only [List.getElem?_toArray, List.getElem?_cons_zero, List.getElem?_cons_succ] at p0 p1 r0 r1
      have lx := x2.lt
      have ly := y2.lt
      clear x0 y0 x1 y1 B0 B1 hb1 HO HO2 HA
      go_wp2_with fail
      refine (HF.out _ BX).mono ?_
      rintro e w2 ⟨rfl, hb2⟩
      have BY := below_tr BX hb2
      have x3 := x2.below hb2 x2.lt
      have y3 := y2.below hb2 y2.lt
      have p0 := x3.cell 0
      have p1 := x3.cell 1
      have r0 := y3.cell 0
      have r1 := y3.cell 1
      simp only [List.getElem?_toArray, List.getElem?_cons_zero, List.getElem?_cons_succ] at p0 p1 r0 r1
      have lx3 := x3.lt
      have ly3 := y3.lt
      go_wp2_with fail
      go_region_held3 (fun w' => (∀ b o, b < w2.heap.size → w'.cell? ⟨b, o, none⟩ = w2.cell? ⟨b, o, none⟩) ∧ (∀ b o, b < w2.heap.size → w'.frozen? ⟨b, o, none⟩ = w2.frozen? ⟨b, o, none⟩) ∧ Below w2.heap.size w2 w') ((first | assumption | (refine kp_of ?_; (repeat' (first | assumption | exact below_refl _ | refine bl_alloc ?_ _ | refine Below.setCell ?_ ?_ _ | refine below_draw ?_ | refine below_drewN ?_ _ | refine below_tr ?_ (by assumption))) <;> (first | omega | (simp; done) | (simp; omega))))) ((first | (go_at_call 15; ((with_reducible refine (HP.out _ (by (repeat' (first | assumption | exact below_refl _ | refine bl_alloc ?_ _ | refine Below.setCell ?_ ?_ _ | refine below_draw ?_ | refine below_drewN ?_ _ | refine below_tr ?_ (by assumption))) <;> (first | omega | (simp; done) | (simp; omega)))).mono ?_); rintro e w3 ⟨v3, rfl, ho3, hb3⟩; obtain ⟨A3, c3, rfl, hR3⟩ := own_rd Sp.cs_len ho3; obtain ⟨hc3, hf3⟩ := bcell hb3; have hz3 := hb3.size; (try simp [sz_drew, sz_drewN] at hz3); (try simp only [sz_drew, sz_drewN] at hc3 hf3))) | (go_at_call 21; ((with_reducible refine (HS.out _ _ _ hR3).mono ?_); rintro e w9 ⟨rfl, hb9⟩; obtain ⟨hc9, hf9⟩ := bcell hb9; have hz9 := hb9.size; (try simp [sz_drew, sz_drewN] at hz9); (try simp only [sz_drew, sz_drewN] at hc9 hf9)))))
      all_goals
        go_wp2
        go_ret2
        exact ⟨rfl, by (repeat' (first | assumption | exact below_refl _ | refine bl_alloc ?_ _ | refine Below.setCell ?_ ?_ _ | refine below_draw ?_ | refine below_drewN ?_ _ | refine below_tr ?_ (by assumption))) <;> (first | omega | (simp; done) | (simp; omega))⟩
  · have HE := Lib.hid (show twE l s t = askE l [s, t] by unfold twE; rw [if_neg he])
    have HD := Lib.hid (show twD l s t = false by unfold twD; rw [HE.out, if_neg he])
    rw [HD.out, HE.out]
    have hn := he
    obtain ⟨E, hE⟩ : ∃ E, E = askE l [s, t] := ⟨_, rfl⟩
    rw [← hE] at HA hn ⊢
    clear he hE HE HD
    go_enter Tryz.func28, Tryz.ntmps28
    go_wp2_with fail
    have hz1 : W1.heap.size = w.heap.size + 1 + 1 := by rw [hW1]; simp
    have HO2 := Lib.hid (hz1 ▸ HO.out)
    have HZ := Lib.hid hz1
    clear hz1
    rw [show ((w.alloc (.cells #[.int .i64 s.x, .int .i64 s.y] 24)).alloc (.cells #[.int .i64 t.x, .int .i64 t.y] 24)) = W1 from hW1.symm]
    clear hW1
    refine (HA.out _ B1 _ HO2.out).mono ?_
    rintro e w1 ⟨rfl, hb1⟩
    have BX := below_tr B1 hb1
    have x2 := x1.below hb1 x1.lt
    have y2 := y1.below hb1 y1.lt
    have p0 := x2.cell 0
    have p1 := x2.cell 1
    have r0 := y2.cell 0
    have r1 := y2.cell 1
    simp only [List.getElem?_toArray, List.getElem?_cons_zero, List.getElem?_cons_succ] at p0 p1 r0 r1
    have lx := x2.lt
    have ly := y2.lt
    clear x0 y0 x1 y1 B0 B1 hb1 HO HO2 HA
    go_wp2
    go_ret2
    exact ⟨rfl, by (repeat' (first | assumption | exact below_refl _ | refine bl_alloc ?_ _ | refine Below.setCell ?_ ?_ _ | refine below_draw ?_ | refine below_drewN ?_ _ | refine below_tr ?_ (by assumption))) <;> (first | omega | (simp; done) | (simp; omega))⟩
end Go.Proofs.YtkeojokbpjdhpaaGreatDoor
