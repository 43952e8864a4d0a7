/- Fell: Direction of the program. -/
import Derived.Test.YthklgkgincebhaaGreatDoorFz2
set_option linter.unusedSimpArgs false
set_option linter.unusedVariables false
namespace Go.Proofs.YthklgkgincebhaaGreatDoor
open Go.RowKit

def flE (l : List Pr) (s : Sp) : Int := if heldB (spL l) s = true then 10 else if l.length = 0 then 8 else 0
def drE (l : List Pr) (s : Sp) : Int := if stE l s = 0 then flE l s else stE l s
set_option maxHeartbeats 2000000 in
theorem p_falls (A : Option Addr) (l : List Pr) (c : Nat) (s : Sp) (w : World) (hl : l.length ≤ 24) (hv : vP l = true) (hs : isS s = true) (hR : Rd Pr.cs 3 w A l) :
    Calls Tryz.prog 28 #[.slice A l.length c, spV s] w fun e w' => e = .returned (.int .i64 (flE l s)) ∧ Below w.heap.size w w' := by
  have x0 := Blk.new w 32 (spA s)
  have B0 := bl_alloc (below_refl w) (.cells (spA s) 32)
  have HP := Lib.hid (fun (W : World) (hb : Below w.heap.size w W) => p_spots A l c W (by omega) (hR.on hb))
  have HS := Lib.hid (fun (W : World) (A : Option Addr) (c : Nat) (hR : Rd Sp.cs 2 W A (spL l)) => p_stands A (spL l) c s W (by rw [spL_len]; exact hl) (vP_bd hv) (vP_nodup hv) (isS_bd hs) hR)
  have p0 := x0.cell 0
  have p1 := x0.cell 1
  simp only [List.getElem?_toArray, List.getElem?_cons_zero, List.getElem?_cons_succ] at p0 p1
  have zx := x0.lt
  have HF := Lib.hid (show flE l s = if heldB (spL l) s = true then 10 else if l.length = 0 then 8 else 0 from rfl)
  clear hv hs
  cases hh : heldB (spL l) s
  · rw [hh] at HF HS
    clear hh
    go_enter Tryz.func28, Tryz.ntmps28
    go_wp2_with fail
    generalize w.alloc (.cells (spA s) 32) = W at *
    clear x0
    go_region_held3 (fun w' => (∀ b o, b < W.heap.size → w'.cell? ⟨b, o, none⟩ = W.cell? ⟨b, o, none⟩) ∧ (∀ b o, b < W.heap.size → w'.frozen? ⟨b, o, none⟩ = W.frozen? ⟨b, o, none⟩) ∧ Below W.heap.size W w') ((first | assumption | (refine kp_of ?_; (repeat' (first | assumption | exact below_refl _ | refine bl_alloc ?_ _ | refine Below.setCell ?_ ?_ _ | refine below_draw ?_ | refine below_drewN ?_ _ | refine below_tr ?_ (by assumption))) <;> (first | omega | (simp; done) | (simp; omega))))) ((first | (go_at_call 27; ((with_reducible refine (HP.out _ (by (repeat' (first | assumption | exact below_refl _ | refine bl_alloc ?_ _ | refine Below.setCell ?_ ?_ _ | refine below_draw ?_ | refine below_drewN ?_ _ | refine below_tr ?_ (by assumption))) <;> (first | omega | (simp; done) | (simp; omega)))).mono ?_); rintro e w3 ⟨v3, rfl, ho3, hb3⟩; obtain ⟨A3, c3, rfl, hR3⟩ := own_rd Sp.cs_len ho3; obtain ⟨hc3, hf3⟩ := bcell hb3; have hz3 := hb3.size; (try simp [sz_drew, sz_drewN] at hz3); (try simp only [sz_drew, sz_drewN] at hc3 hf3))) | (go_at_call 26; ((with_reducible refine (HS.out _ _ _ hR3).mono ?_); rintro e w4 ⟨rfl, hb4⟩; obtain ⟨hc4, hf4⟩ := bcell hb4; have hz4 := hb4.size; (try simp [sz_drew, sz_drewN] at hz4); (try simp only [sz_drew, sz_drewN] at hc4 hf4)))))
    by_cases h0 : l.length = 0
    · have h0' : (l.length : Int) = 0 := by omega
      have hq : ((l.length : Int) == 0) = true := by simpa using h0
      have HE := Lib.hid (show flE l s = 8 by rw [HF.out, if_pos h0]; rfl)
      go_wp2
      go_ret
      exact ⟨ret_int HE.out.symm, below_tr B0 (by (repeat' (first | assumption | exact below_refl _ | refine bl_alloc ?_ _ | refine Below.setCell ?_ ?_ _ | refine below_draw ?_ | refine below_drewN ?_ _ | refine below_tr ?_ (by assumption))) <;> (first | omega | (simp; done) | (simp; omega)))⟩
    · have hq : ((l.length : Int) == 0) = false := by simpa using h0
      have h0' : ¬ (l.length : Int) = 0 := by omega
      have HE := Lib.hid (show flE l s = 0 by rw [HF.out, if_neg h0]; rfl)
      go_wp2
      go_ret
      exact ⟨ret_int HE.out.symm, below_tr B0 (by (repeat' (first | assumption | exact below_refl _ | refine bl_alloc ?_ _ | refine Below.setCell ?_ ?_ _ | refine below_draw ?_ | refine below_drewN ?_ _ | refine below_tr ?_ (by assumption))) <;> (first | omega | (simp; done) | (simp; omega)))⟩
  · rw [hh] at HF HS
    clear hh
    have HE := Lib.hid (show flE l s = 10 by rw [HF.out]; rfl)
    go_enter Tryz.func28, Tryz.ntmps28
    go_wp2_with fail
    generalize w.alloc (.cells (spA s) 32) = W at *
    clear x0
    go_region_held3 (fun w' => (∀ b o, b < W.heap.size → w'.cell? ⟨b, o, none⟩ = W.cell? ⟨b, o, none⟩) ∧ (∀ b o, b < W.heap.size → w'.frozen? ⟨b, o, none⟩ = W.frozen? ⟨b, o, none⟩) ∧ Below W.heap.size W w') ((first | assumption | (refine kp_of ?_; (repeat' (first | assumption | exact below_refl _ | refine bl_alloc ?_ _ | refine Below.setCell ?_ ?_ _ | refine below_draw ?_ | refine below_drewN ?_ _ | refine below_tr ?_ (by assumption))) <;> (first | omega | (simp; done) | (simp; omega))))) ((first | (go_at_call 27; ((with_reducible refine (HP.out _ (by (repeat' (first | assumption | exact below_refl _ | refine bl_alloc ?_ _ | refine Below.setCell ?_ ?_ _ | refine below_draw ?_ | refine below_drewN ?_ _ | refine below_tr ?_ (by assumption))) <;> (first | omega | (simp; done) | (simp; omega)))).mono ?_); rintro e w3 ⟨v3, rfl, ho3, hb3⟩; obtain ⟨A3, c3, rfl, hR3⟩ := own_rd Sp.cs_len ho3; obtain ⟨hc3, hf3⟩ := bcell hb3; have hz3 := hb3.size; (try simp [sz_drew, sz_drewN] at hz3); (try simp only [sz_drew, sz_drewN] at hc3 hf3))) | (go_at_call 26; ((with_reducible refine (HS.out _ _ _ hR3).mono ?_); rintro e w4 ⟨rfl, hb4⟩; obtain ⟨hc4, hf4⟩ := bcell hb4; have hz4 := hb4.size; (try simp [sz_drew, sz_drewN] at hz4); (try simp only [sz_drew, sz_drewN] at hc4 hf4)))))
    go_wp2
    go_ret
    exact ⟨ret_int HE.out.symm, below_tr B0 (by (repeat' (first | assumption | exact below_refl _ | refine bl_alloc ?_ _ | refine Below.setCell ?_ ?_ _ | refine below_draw ?_ | refine below_drewN ?_ _ | refine below_tr ?_ (by assumption))) <;> (first | omega | (simp; done) | (simp; omega)))⟩
def DrP (l : List Pr) (s : Sp) (w : World) (e : Ending) (w' : World) : Prop := ∃ d, e = .returned (.tuple #[spV d, .int .i64 (drE l s)]) ∧ (drE l s = 0 → DirP (spL l) s d) ∧ (drE l s ≠ 0 → d = ⟨0, 0⟩) ∧ Below w.heap.size w w'
theorem flE_cases {l : List Pr} {s : Sp} : (flE l s ≠ 0) ∨ (flE l s = 0 ∧ ¬ Held (spL l) s ∧ spL l ≠ []) := by
  unfold flE
  by_cases h : heldB (spL l) s = true
  · left; rw [if_pos h]; omega
  · rw [if_neg h]
    by_cases h0 : l.length = 0
    · left; rw [if_pos h0]; omega
    · right
      rw [if_neg h0]
      refine ⟨rfl, fun hh => h (heldB_iff.2 hh), fun e => ?_⟩
      have := congrArg List.length e
      rw [spL_len] at this
      exact h0 this
set_option maxHeartbeats 4000000 in
theorem p_Direction (A : Option Addr) (l : List Pr) (c : Nat) (s : Sp) (w : World) (hl : l.length ≤ 100000) (h12 : vP l = true → l.length ≤ 24) (hR : Rd Pr.cs 3 w A l) :
    Calls Tryz.prog 12 #[.slice A l.length c, spV s] w (DrP l s w) := by
  obtain ⟨W1, hW1⟩ : ∃ W1, W1 = (w.alloc (.cells (spA s) 32)).alloc (.cells #[.int .i64 0, .int .i64 0] 32) := ⟨_, rfl⟩
  have x0 : Blk W1 w.heap.size 32 (spA s) := by rw [hW1]; exact (Blk.new w 32 (spA s)).alloc (.cells #[.int .i64 0, .int .i64 0] 32)
  have y0 : Blk W1 (w.heap.size + 1) 32 #[.int .i64 0, .int .i64 0] := by
    have := Blk.new (w.alloc (.cells (spA s) 32)) 32 #[.int .i64 0, .int .i64 0]
    rw [World.size_alloc] at this
    rw [hW1]; exact this
  have B0 : Below w.heap.size w W1 := by rw [hW1]; exact bl_alloc (bl_alloc (below_refl w) (.cells (spA s) 32)) (.cells #[.int .i64 0, .int .i64 0] 32)
  have HA := Lib.hid (fun (W : World) (hb : Below w.heap.size w W) (b : Nat) (hS : Rd Sp.cs 2 W (some ⟨b, 0, none⟩) [s]) => p_askedOne A l s c b W hl (hR.on hb) hS)
  have HO := Lib.hid (rd_one W1 s)
  have B1 := bl_alloc B0 (.cells (spA s) 32)
  have x1 := x0.alloc (.cells (spA s) 32)
  have y1 := y0.alloc (.cells (spA s) 32)
  have p0 := x0.cell 0
  have p1 := x0.cell 1
  simp only [List.getElem?_toArray, List.getElem?_cons_zero, List.getElem?_cons_succ] at p0 p1
  by_cases he : stE l s = 0
  · have HD := Lib.hid (show drE l s = flE l s by unfold drE; rw [if_pos he])
    have ⟨hv, hs⟩ := stE_z he
    have HF := Lib.hid (fun (W : World) (hb : Below w.heap.size w W) => p_falls A l c s W (h12 hv) hv hs (hR.on hb))
    rw [he] at HA
    rcases (flE_cases (l := l) (s := s)) with hn | ⟨hz, hnh, hne⟩
    · obtain ⟨E, hE⟩ : ∃ E, E = flE l s := ⟨_, rfl⟩
      rw [← hE] at HD HF hn
      clear he hE hv hs
      unfold DrP
      rw [HD.out]
      go_enter Tryz.func12, Tryz.ntmps12
      go_wp2_with fail
      have hz1 : W1.heap.size = w.heap.size + 1 + 1 := by rw [hW1]; simp
      have HO2 := Lib.hid (hz1 ▸ HO.out)
      have HZ := Lib.hid hz1
      clear hz1
      rw [show ((w.alloc (.cells #[.int .i64 s.x, .int .i64 s.y] 32)).alloc (.cells #[.int .i64 0, .int .i64 0] 32)) = W1 from hW1.symm]
      clear hW1
      refine (HA.out _ B1 _ HO2.out).mono ?_
      rintro e w1 ⟨rfl, hb1⟩
      have BX := below_tr B1 hb1
      have x2 := x1.below hb1 x1.lt
      have y2 := y1.below hb1 y1.lt
      have p0 := x2.cell 0
      have p1 := x2.cell 1
      have r0 := y2.cell 0
      have r1 := y2.cell 1
      have q0 := y2.frozen 0
      have q1 := y2.frozen 1
      simp only [List.getElem?_toArray, List.getElem?_cons_zero, List.getElem?_cons_succ] at p0 p1 r0 r1
      have lx := x2.lt
      have ly := y2.lt
      clear x0 y0 x1 y1 B0 B1 hb1 HO HO2 HA
      go_wp2_with fail
      refine (HF.out _ BX).mono ?_
      rintro e w2 ⟨rfl, hb2⟩
      have BY := below_tr BX hb2
      have x3 := x2.below hb2 x2.lt
      have y3 := y2.below hb2 y2.lt
      have p0 := x3.cell 0
      have p1 := x3.cell 1
      have r0 := y3.cell 0
      have r1 := y3.cell 1
      have q0 := y3.frozen 0
      have q1 := y3.frozen 1
      simp only [List.getElem?_toArray, List.getElem?_cons_zero, List.getElem?_cons_succ] at p0 p1 r0 r1
      have lx3 := x3.lt
      have ly3 := y3.lt
      go_wp2
      refine bodyPost_ret (v := .tuple #[spV ⟨0, 0⟩, .int .i64 E]) (by simp [results, Tryz.results12, go_sem, *]) rfl ⟨⟨0, 0⟩, rfl, fun h => absurd h hn, fun _ => rfl, ?_⟩
      (repeat' (first | assumption | exact below_refl _ | refine bl_alloc ?_ _ | refine Below.setCell ?_ ?_ _ | refine below_draw ?_ | refine below_drewN ?_ _ | refine below_tr ?_ (by assumption))) <;> (first | omega | (simp; done) | (simp; omega))
    · have HS := Lib.hid (fun (W : World) (A : Option Addr) (c : Nat) (hR : Rd Sp.cs 2 W A (spL l)) => p_direction A (spL l) c s W (by rw [spL_len]; exact h12 hv) hne (vP_bd hv) (vP_nodup hv) (isS_bd hs) hnh hR)
      have HP := Lib.hid (fun (W : World) (hb : Below w.heap.size w W) => p_spots A l c W hl (hR.on hb))
      rw [hz] at HD HF
      have HDR := Lib.hid (fun d (h : DirP (spL l) s d) => h)
      clear he hv hs hz hnh hne
      unfold DrP
      rw [HD.out]
      go_enter Tryz.func12, Tryz.ntmps12
      go_wp2_with fail
      have hz1 : W1.heap.size = w.heap.size + 1 + 1 := by rw [hW1]; simp
      have HO2 := Lib.hid (hz1 ▸ HO.out)
      have HZ := Lib.hid hz1
      clear hz1
      rw [show ((w.alloc (.cells #[.int .i64 s.x, .int .i64 s.y] 32)).alloc (.cells #[.int .i64 0, .int .i64 0] 32)) = W1 from hW1.symm]
      clear hW1
      refine (HA.out _ B1 _ HO2.out).mono ?_
      rintro e w1 ⟨rfl, hb1⟩
      have BX := below_tr B1 hb1
      have x2 := x1.below hb1 x1.lt
      have y2 := y1.below hb1 y1.lt
      have p0 := x2.cell 0
      have p1 := x2.cell 1
      have r0 := y2.cell 0
      have r1 := y2.cell 1
      have q0 := y2.frozen 0
      have q1 := y2.frozen 1
      simp only [List.getElem?_toArray, List.getElem?_cons_zero, List.getElem?_cons_succ] at p0 p1 r0 r1
      have lx := x2.lt
      have ly := y2.lt
      clear x0 y0 x1 y1 B0 B1 hb1 HO HO2 HA
      go_wp2_with fail
      refine (HF.out _ BX).mono ?_
      rintro e w2 ⟨rfl, hb2⟩
      have BY := below_tr BX hb2
      have x3 := x2.below hb2 x2.lt
      have y3 := y2.below hb2 y2.lt
      have p0 := x3.cell 0
      have p1 := x3.cell 1
      have r0 := y3.cell 0
      have r1 := y3.cell 1
      have q0 := y3.frozen 0
      have q1 := y3.frozen 1
      simp only [List.getElem?_toArray, List.getElem?_cons_zero, List.getElem?_cons_succ] at p0 p1 r0 r1
      have lx3 := x3.lt
      have ly3 := y3.lt
      go_wp2_with fail
      go_region_held3 (fun w' => (∀ b o, b < w2.heap.size → b ≠ (w.heap.size + 1) → w'.cell? ⟨b, o, none⟩ = w2.cell? ⟨b, o, none⟩) ∧ (∀ b o, b < w2.heap.size → w'.frozen? ⟨b, o, none⟩ = w2.frozen? ⟨b, o, none⟩) ∧ w2.heap.size ≤ w'.heap.size ∧ Below w.heap.size w w') (((show Kx w w2 ((w.heap.size + 1)) _); (repeat' (first | assumption | exact kx_refl (by assumption) | refine kx_set ?_ ?_ | refine kx_draw ?_ | refine kx_step ?_ (by assumption))); (all_goals (first | omega | (simp; omega))))) ((first | (go_at_call 27; ((with_reducible refine (HP.out _ (by (repeat' (first | assumption | exact below_refl _ | refine bl_alloc ?_ _ | refine Below.setCell ?_ ?_ _ | refine below_draw ?_ | refine below_drewN ?_ _ | refine below_tr ?_ (by assumption))) <;> (first | omega | (simp; done) | (simp; omega)))).mono ?_); rintro e w3 ⟨v3, rfl, ho3, hb3⟩; obtain ⟨A3, c3, rfl, hR3⟩ := own_rd Sp.cs_len ho3; obtain ⟨hc3, hf3⟩ := bcell hb3; have hz3 := hb3.size; (try simp [sz_drew, sz_drewN] at hz3); (try simp only [sz_drew, sz_drewN] at hc3 hf3))) | (go_at_call 29; ((with_reducible refine (HS.out _ _ _ hR3).mono ?_); rintro e w9 ⟨dd, rfl, hdd, hb9⟩; have B9 : Below w2.heap.size w2 w9 := (by (repeat' (first | assumption | exact below_refl _ | refine bl_alloc ?_ _ | refine Below.setCell ?_ ?_ _ | refine below_draw ?_ | refine below_drewN ?_ _ | refine below_tr ?_ (by assumption))) <;> (first | omega | (simp; done) | (simp; omega))); have t0 := ((bcell B9).1 _ 0 ly3).trans r0; have t1 := ((bcell B9).1 _ 1 ly3).trans r1; have u0 := ((bcell B9).2 _ 0 ly3).trans q0; have u1 := ((bcell B9).2 _ 1 ly3).trans q1; have ly9 := Nat.lt_of_lt_of_le ly3 B9.size))))
      all_goals
        go_wp2
        refine bodyPost_ret (v := .tuple #[spV dd, .int .i64 0]) (by simp [results, Tryz.results12, go_sem, *]) rfl ⟨dd, rfl, fun _ => hdd, fun h => absurd rfl h, ?_⟩
        (repeat' (first | assumption | exact below_refl _ | refine bl_alloc ?_ _ | refine Below.setCell ?_ ?_ _ | refine below_draw ?_ | refine below_drewN ?_ _ | refine below_tr ?_ (by assumption))) <;> (first | omega | (simp; done) | (simp; omega))
  · have HD := Lib.hid (show drE l s = stE l s by unfold drE; rw [if_neg he])
    have hn := he
    obtain ⟨E, hE⟩ : ∃ E, E = stE l s := ⟨_, rfl⟩
    rw [← hE] at HD HA hn
    clear he hE
    unfold DrP
    rw [HD.out]
    go_enter Tryz.func12, Tryz.ntmps12
    go_wp2_with fail
    have hz1 : W1.heap.size = w.heap.size + 1 + 1 := by rw [hW1]; simp
    have HO2 := Lib.hid (hz1 ▸ HO.out)
    have HZ := Lib.hid hz1
    clear hz1
    rw [show ((w.alloc (.cells #[.int .i64 s.x, .int .i64 s.y] 32)).alloc (.cells #[.int .i64 0, .int .i64 0] 32)) = W1 from hW1.symm]
    clear hW1
    refine (HA.out _ B1 _ HO2.out).mono ?_
    rintro e w1 ⟨rfl, hb1⟩
    have BX := below_tr B1 hb1
    have x2 := x1.below hb1 x1.lt
    have y2 := y1.below hb1 y1.lt
    have p0 := x2.cell 0
    have p1 := x2.cell 1
    have r0 := y2.cell 0
    have r1 := y2.cell 1
    have q0 := y2.frozen 0
    have q1 := y2.frozen 1
    simp only [List.getElem?_toArray, List.getElem?_cons_zero, List.getElem?_cons_succ] at p0 p1 r0 r1
    have lx := x2.lt
    have ly := y2.lt
    clear x0 y0 x1 y1 B0 B1 hb1 HO HO2 HA
    go_wp2
    refine bodyPost_ret (v := .tuple #[spV ⟨0, 0⟩, .int .i64 E]) (by simp [results, Tryz.results12, go_sem, *]) rfl ⟨⟨0, 0⟩, rfl, fun h => absurd h hn, fun _ => rfl, ?_⟩
    (repeat' (first | assumption | exact below_refl _ | refine bl_alloc ?_ _ | refine Below.setCell ?_ ?_ _ | refine below_draw ?_ | refine below_drewN ?_ _ | refine below_tr ?_ (by assumption))) <;> (first | omega | (simp; done) | (simp; omega))
end Go.Proofs.YthklgkgincebhaaGreatDoor
