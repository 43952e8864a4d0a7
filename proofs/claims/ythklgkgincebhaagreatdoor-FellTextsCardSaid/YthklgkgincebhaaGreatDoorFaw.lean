/- Fell: the chapter's examples. -/
import Derived.Test.YthklgkgincebhaaGreatDoorFz3
import Derived.Test.YthklgkgincebhaaGreatDoorFy
set_option linter.unusedSimpArgs false
set_option linter.unusedVariables false
namespace Go.Proofs.YthklgkgincebhaaGreatDoor
open Go.RowKit

theorem rd_dropA {α : Type} {enc : α → List Value} {sz : Nat} {w : World} {b off : Nat} {l : List α} (h : Rd enc sz w (some ⟨b, off, none⟩) l) (n : Nat) : Rd enc sz w (some ⟨b, off + n * sz, none⟩) (l.drop n) := fun hne => by
  obtain ⟨b', off', e, hb, hc⟩ := h (by rintro rfl; simp at hne)
  cases e
  refine ⟨b, off + n * sz, rfl, hb, fun k x hx j v hv => ?_⟩
  rw [List.getElem?_drop] at hx
  rw [show off + n * sz + k * sz + j = off + (n + k) * sz + j by rw [Nat.add_mul]; omega]
  exact hc _ x hx j v hv
theorem rd_takeA {α : Type} {enc : α → List Value} {sz : Nat} {w : World} {A : Option Addr} {l : List α} (h : Rd enc sz w A l) (n : Nat) : Rd enc sz w A (l.take n) := fun hne => by
  obtain ⟨b, off, e, hb, hc⟩ := h (by rintro rfl; simp at hne)
  refine ⟨b, off, e, hb, fun k x hx j v hv => ?_⟩
  rw [List.getElem?_take] at hx
  split at hx
  · exact hc k x hx j v hv
  · cases hx
def aw3 : List Pr := [⟨⟨0, 0⟩, false⟩, ⟨⟨10, 0⟩, false⟩, ⟨⟨0, 10⟩, false⟩]
def aw2 : List Pr := [⟨⟨10, 0⟩, false⟩, ⟨⟨0, 10⟩, false⟩]
abbrev awC : Array Value := #[.int .i64 0, .int .i64 0, .bool false, .int .i64 10, .int .i64 0, .bool false, .int .i64 0, .int .i64 10, .bool false]
theorem aw_rd {W : World} {b : Nat} (h : Blk W b 34 awC) : Rd Pr.cs 3 W (some ⟨b, 0, none⟩) aw3 := by
  refine row_rd h ?_
  intro k x hx r u hu
  match k, hx with
  | 0, hx => cases hx; match r, hu with
    | 0, hu => cases hu; rfl
    | 1, hu => cases hu; rfl
    | 2, hu => cases hu; rfl
  | 1, hx => cases hx; match r, hu with
    | 0, hu => cases hu; rfl
    | 1, hu => cases hu; rfl
    | 2, hu => cases hu; rfl
  | 2, hx => cases hx; match r, hu with
    | 0, hu => cases hu; rfl
    | 1, hu => cases hu; rfl
    | 2, hu => cases hu; rfl
theorem aw_st : stE aw3 ⟨2, 2⟩ = 0 ∧ stD aw3 ⟨2, 2⟩ = true := by decide
theorem aw_dr : drE aw2 ⟨2, 2⟩ = 0 := by decide
theorem aw_dir : DirP (spL aw2) ⟨2, 2⟩ ⟨-1, -1⟩ := by
  refine ⟨⟨1 * -((10 : Int) - 0), 1 * ((0 : Int) - 10)⟩, cand_side (s := 1) (p := ⟨10, 0⟩) (r := ⟨0, 10⟩) (by decide) (by decide) (by decide) (by decide) (by decide) (by decide) (by decide), by unfold Nz; decide, by decide⟩
theorem aw_in : inE ⟨⟨0, 0⟩, ⟨10, 0⟩, 100, 200⟩ ⟨50, 10⟩ = 0 ∧ inD ⟨⟨0, 0⟩, ⟨10, 0⟩, 100, 200⟩ ⟨50, 10⟩ = true ∧ inE ⟨⟨0, 0⟩, ⟨10, 0⟩, 100, 200⟩ ⟨50, 11⟩ = 0 ∧ inD ⟨⟨0, 0⟩, ⟨10, 0⟩, 100, 200⟩ ⟨50, 11⟩ = false := by decide
theorem aw_Stands (b : Nat) (w : World) (h : Blk w b 34 awC) : Calls Tryz.prog 11 #[.slice (some ⟨b, 0, none⟩) 3 3, spV ⟨2, 2⟩] w fun e w' => e = .returned (.tuple #[.bool true, .int .i64 0]) ∧ Below w.heap.size w w' := by
  have := p_Stands (some ⟨b, 0, none⟩) aw3 3 ⟨2, 2⟩ w (by decide) (fun _ => by decide) (aw_rd h)
  rw [aw_st.1, aw_st.2] at this
  exact this
theorem aw_Direction (b : Nat) (w : World) (h : Blk w b 34 awC) : Calls Tryz.prog 12 #[.slice (some ⟨b, 3, none⟩) 2 2, spV ⟨2, 2⟩] w fun e w' => e = .returned (.tuple #[spV ⟨-1, -1⟩, .int .i64 0]) ∧ Below w.heap.size w w' := by
  have := p_Direction (some ⟨b, 3, none⟩) aw2 2 ⟨2, 2⟩ w (by decide) (fun _ => by decide) (rd_dropA (aw_rd h) 1)
  refine this.mono ?_
  rintro e w' ⟨d, rfl, h1, _, hb⟩
  have e := dirP_uniq (h1 aw_dr) aw_dir
  rw [e, aw_dr]
  exact ⟨rfl, hb⟩
theorem aw_In1 (w : World) : Calls Tryz.prog 13 #[.agg #[.int .i64 0, .int .i64 0, .int .i64 10, .int .i64 0, .int .i64 100, .int .i64 200], spV ⟨50, 10⟩] w fun e w' => e = .returned (.tuple #[.bool true, .int .i64 0]) ∧ Below w.heap.size w w' := by
  have := p_In ⟨⟨0, 0⟩, ⟨10, 0⟩, 100, 200⟩ ⟨50, 10⟩ w
  rw [aw_in.1, aw_in.2.1] at this
  exact this
theorem aw_In2 (w : World) : Calls Tryz.prog 13 #[.agg #[.int .i64 0, .int .i64 0, .int .i64 10, .int .i64 0, .int .i64 100, .int .i64 200], spV ⟨50, 11⟩] w fun e w' => e = .returned (.tuple #[.bool false, .int .i64 0]) ∧ Below w.heap.size w w' := by
  have := p_In ⟨⟨0, 0⟩, ⟨10, 0⟩, 100, 200⟩ ⟨50, 11⟩ w
  rw [aw_in.2.2.1, aw_in.2.2.2] at this
  exact this
set_option maxHeartbeats 4000000 in
theorem l_awake (w : World) : Calls Tryz.prog 4 #[] w fun e w' => e = .returned (.bool true) ∧ Below w.heap.size w w' := by
  obtain ⟨W1, hW1⟩ : ∃ W1, W1 = (w.alloc (.cells awC 34)).alloc (.cells #[.int .i64 2, .int .i64 2] 32) := ⟨_, rfl⟩
  have x0 : Blk W1 w.heap.size 34 awC := by rw [hW1]; exact (Blk.new w 34 awC).alloc (.cells #[.int .i64 2, .int .i64 2] 32)
  have y0 : Blk W1 (w.heap.size + 1) 32 #[.int .i64 2, .int .i64 2] := by
    have := Blk.new (w.alloc (.cells awC 34)) 32 #[.int .i64 2, .int .i64 2]
    rw [World.size_alloc] at this
    rw [hW1]; exact this
  have B0 : Below w.heap.size w W1 := by rw [hW1]; exact bl_alloc (bl_alloc (below_refl w) (.cells awC 34)) (.cells #[.int .i64 2, .int .i64 2] 32)
  have HS := Lib.hid (fun W h => aw_Stands w.heap.size W h)
  have HD := Lib.hid (fun W h => aw_Direction w.heap.size W h)
  go_enter Tryz.func4, Tryz.ntmps4
  go_wp2_with fail
  rw [show ((w.alloc (.cells #[.int .i64 0, .int .i64 0, .bool false, .int .i64 10, .int .i64 0, .bool false, .int .i64 0, .int .i64 10, .bool false] 34)).alloc (.cells #[.int .i64 2, .int .i64 2] 32)) = W1 from hW1.symm]
  clear hW1
  refine (HS.out _ x0).mono ?_
  rintro e w1 ⟨rfl, hb1⟩
  have B1 := below_tr B0 hb1
  have x1 := x0.below hb1 x0.lt
  have y1 := y0.below hb1 y0.lt
  have p0 := y1.cell 0
  have p1 := y1.cell 1
  simp only [List.getElem?_toArray, List.getElem?_cons_zero, List.getElem?_cons_succ] at p0 p1
  have lx := x1.lt
  have ly := y1.lt
  clear x0 y0 B0 hb1 HS
  go_upto_region 5 with fail
  go_cut [5, 6] (fun s5 s6 wx => ∃ g : Nat, s5 = .pointer (some ⟨g, 0, none⟩) ∧ s6 = .int .i64 0 ∧ wx.cell? ⟨g, 0, none⟩ = some (.int .i64 (-1)) ∧ wx.cell? ⟨g, 1, none⟩ = some (.int .i64 (-1)) ∧ g < wx.heap.size ∧ Below w1.heap.size w1 wx)
  case first =>
    go_region_held3 (fun w' => (∀ b o, b < w1.heap.size → w'.cell? ⟨b, o, none⟩ = w1.cell? ⟨b, o, none⟩) ∧ (∀ b o, b < w1.heap.size → w'.frozen? ⟨b, o, none⟩ = w1.frozen? ⟨b, o, none⟩) ∧ Below w1.heap.size w1 w') ((first | assumption | (refine kp_of ?_; (repeat' (first | assumption | exact below_refl _ | refine bl_alloc ?_ _ | refine Below.setCell ?_ ?_ _ | refine below_draw ?_ | refine below_drewN ?_ _ | refine below_tr ?_ (by assumption))) <;> (first | omega | (simp; done) | (simp; omega))))) ((go_at_call 12; ((with_reducible refine (HD.out _ (x1.below (by (repeat' (first | assumption | exact below_refl _ | refine bl_alloc ?_ _ | refine Below.setCell ?_ ?_ _ | refine below_draw ?_ | refine below_drewN ?_ _ | refine below_tr ?_ (by assumption))) <;> (first | omega | (simp; done) | (simp; omega))) lx)).mono ?_); rintro e w3 ⟨rfl, hb3⟩; obtain ⟨hc3, hf3⟩ := bcell hb3; have hz3 := hb3.size; (try simp [sz_drew, sz_drewN] at hz3); (try simp only [sz_drew, sz_drewN] at hc3 hf3); (try (refine (fun (y3_0 : w1.heap.size  < w3.heap.size) => ?_) ?_; rotate_left; omega)); (try (refine (fun (v3_0 : w1.heap.size  ≤ w3.heap.size) => ?_) ?_; rotate_left; omega)))))
    all_goals go_wp2
    all_goals go_meet
    all_goals (have L2 : ∀ n : Nat, n < n + 1 + 1 := fun n => by omega)
    all_goals exact ⟨_, rfl, rfl, by (first | (go_simp; done) | (go_simp; refine World.cell?_setCell_same (u := .int .i64 0) _ _ _ ?_; go_simp)), by (first | (go_simp; done) | (go_simp; refine World.cell?_setCell_same (u := .int .i64 0) _ _ _ ?_; go_simp)), by (simp [World.setCell] <;> omega), by (repeat' (first | assumption | exact below_refl _ | refine bl_alloc ?_ _ | refine Below.setCell ?_ ?_ _ | refine below_draw ?_ | refine below_drewN ?_ _ | refine below_tr ?_ (by assumption))) <;> (first | omega | (simp; done) | (simp; omega))⟩
  case rest =>
    obtain ⟨g, rfl, rfl, g0, g1, gl', hbx⟩ := hcut
    obtain ⟨wx, hwx⟩ : ∃ wx : World, wx = wc := ⟨wc, rfl⟩
    rw [← hwx] at g0 g1 gl' hbx ⊢
    clear hwx
    have BX := below_tr B1 hbx
    clear x1 y1 p0 p1 lx ly B1 HD hbx
    have z0 := Blk.new wx 40 #[.int .i64 0, .int .i64 0, .int .i64 10, .int .i64 0, .int .i64 100, .int .i64 200]
    have BZ := bl_alloc BX (.cells #[.int .i64 0, .int .i64 0, .int .i64 10, .int .i64 0, .int .i64 100, .int .i64 200] 40)
    have HI1 := Lib.hid aw_In1
    have HI2 := Lib.hid aw_In2
    go_wp2_with fail
    refine (HI1.out _).mono ?_
    rintro e w4 ⟨rfl, hb4⟩
    have z1 := z0.below hb4 z0.lt
    have q0 := z1.cell 0
    have q1 := z1.cell 1
    have q2 := z1.cell 2
    have q3 := z1.cell 3
    have q4 := z1.cell 4
    have q5 := z1.cell 5
    simp only [List.getElem?_toArray, List.getElem?_cons_zero, List.getElem?_cons_succ] at q0 q1 q2 q3 q4 q5
    have h0 : w4.cell? ⟨g, 0, none⟩ = some (.int .i64 (-1)) := by rw [(bcell hb4).1 _ _ (by rw [World.size_alloc]; omega), World.cell?_alloc_old _ _ _ (by show g ≠ _; omega)]; exact g0
    have h1 : w4.cell? ⟨g, 1, none⟩ = some (.int .i64 (-1)) := by rw [(bcell hb4).1 _ _ (by rw [World.size_alloc]; omega), World.cell?_alloc_old _ _ _ (by show g ≠ _; omega)]; exact g1
    have l4 : g < w4.heap.size := by have := hb4.size; rw [World.size_alloc] at this; omega
    have B4 := below_tr BZ hb4
    clear g0 g1 gl' BX BZ z0 HI1 hb4
    go_wp2_with fail
    refine (HI2.out _).mono ?_
    rintro e w5 ⟨rfl, hb5⟩
    have k0 : w5.cell? ⟨g, 0, none⟩ = some (.int .i64 (-1)) := by rw [(bcell hb5).1 _ _ l4]; exact h0
    have k1 : w5.cell? ⟨g, 1, none⟩ = some (.int .i64 (-1)) := by rw [(bcell hb5).1 _ _ l4]; exact h1
    have B5 := below_tr B4 hb5
    go_wp2
    go_ret
    exact ⟨rfl, B5⟩
end Go.Proofs.YthklgkgincebhaaGreatDoor
