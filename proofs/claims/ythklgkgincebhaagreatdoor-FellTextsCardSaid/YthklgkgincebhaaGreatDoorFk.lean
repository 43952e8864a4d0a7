/- Fell: spots compared and sorted. -/
import Derived.Test.YthklgkgincebhaaGreatDoorFj
import Derived.Test.YthklgkgincebhaaGreatDoorShelf
set_option linter.unusedSimpArgs false
set_option linter.unusedVariables false
namespace Go.Proofs.YthklgkgincebhaaGreatDoor
open Go.RowKit Go.Shelf

theorem c_Or (a b : Int) (A : Nat) (w : World) (h0 : w.cell? ⟨A, 0, none⟩ = some (.int .i64 a)) (h1 : w.cell? ⟨A, 1, none⟩ = some (.int .i64 b)) :
    Calls Tryz.prog 67 #[.slice (some ⟨A, 0, none⟩) 2 2] w fun e w' => e = .returned (.int .i64 (if a = 0 then b else a)) ∧ w = w' := by
  obtain ⟨R, hR⟩ : ∃ R : Int, R = if a = 0 then b else a := ⟨_, rfl⟩
  have HE := Lib.hid hR
  rw [← hR]
  clear hR
  go_enter Tryz.func67, Tryz.ntmps67
  go_wp2
  go_loop [8] (fun i => ∃ k : Nat, k ≤ 2 ∧ i = .int .i64 k ∧ Hid (∀ j, j < k → (if j = 0 then a else b) = 0)) (fun i => 2 - (intOf i).toNat)
  case atStart => exact ⟨0, by omega, rfl, Lib.hid (fun j h => absurd h (by omega))⟩
  case round =>
    obtain ⟨k, hk, rfl, HI⟩ := hrel
    rcases (by omega : k = 0 ∨ k = 1 ∨ k = 2) with rfl | rfl | rfl
    · by_cases ha : a = 0
      · have HJ := Lib.hid (show ∀ j, j < 1 → (if j = 0 then a else b) = 0 from fun j hj => by rw [if_pos (by omega)]; exact ha)
        have ha2 : (a == 0) = true := by simp [ha]
        subst ha
        go_wp2
        go_round
        case rel => exact ⟨1, by omega, rfl, HJ.out⟩
        case measure => simp [intOf]
      · have HR := Lib.hid (show R = a by rw [HE.out, if_neg ha])
        go_wp2
        go_ret
        exact ⟨ret_int HR.out.symm, rfl⟩
    · have ha := HI.out 0 (by omega)
      rw [if_pos rfl] at ha
      by_cases hb : b = 0
      · have HJ := Lib.hid (show ∀ j, j < 2 → (if j = 0 then a else b) = 0 from fun j hj => by split; exact ha; exact hb)
        clear ha
        subst hb
        go_wp2
        go_round
        case rel => exact ⟨2, by omega, rfl, HJ.out⟩
        case measure => simp [intOf]
      · have HR := Lib.hid (show R = b by rw [HE.out, if_pos ha])
        clear ha
        go_wp2
        go_ret
        exact ⟨ret_int HR.out.symm, rfl⟩
    · have ha := HI.out 0 (by omega)
      have hb := HI.out 1 (by omega)
      rw [if_pos rfl] at ha
      rw [if_neg (by omega)] at hb
      have HR := Lib.hid (show R = 0 by rw [HE.out, if_pos ha]; exact hb)
      clear ha hb
      go_wp2
      go_ret
      exact ⟨ret_int HR.out.symm, rfl⟩
/-- how two spots are ordered -/
def cmpS (a b : Sp) : Int := if Lib.compareInt a.y b.y = 0 then Lib.compareInt a.x b.x else Lib.compareInt a.y b.y
set_option maxHeartbeats 2000000 in
theorem p_cmp (a b : Sp) (w : World) : Calls Tryz.prog 66 #[spV a, spV b] w fun e w' => e = .returned (.int .i64 (cmpS a b)) ∧ ∃ q os', w' = Go.Sort.grow (w.drewN q) os' := by
  have HC1 := Lib.hid (fun W => Tryz.cmp_Compare_int a.y b.y W)
  have HC2 := Lib.hid (fun W => Tryz.cmp_Compare_int a.x b.x W)
  unfold cmpS
  generalize Lib.compareInt a.y b.y = C1 at *
  generalize Lib.compareInt a.x b.x = C2 at *
  obtain ⟨R, hR⟩ : ∃ R : Int, R = if C1 = 0 then C2 else C1 := ⟨_, rfl⟩
  rw [← hR]
  have HRR := Lib.hid hR
  clear hR
  go_enter Tryz.func66, Tryz.ntmps66
  go_wp2_with fail
  have x0 := (Blk.new w 32 (spA a)).alloc (.cells (spA b) 32)
  have x1 := Blk.new (w.alloc (.cells (spA a) 32)) 32 (spA b)
  rw [World.size_alloc] at x1
  have x0_0 := x0.cell 0
  have x0_1 := x0.cell 1
  have x1_0 := x1.cell 0
  have x1_1 := x1.cell 1
  simp only [List.getElem?_toArray, List.getElem?_cons_zero, List.getElem?_cons_succ] at x0_0 x0_1 x1_0 x1_1
  have z0 := x0.lt
  have z1 := x1.lt
  have hgw : (w.alloc (.cells (spA a) 32)).alloc (.cells (spA b) 32) = Go.Sort.grow w #[.cells (spA a) 32, .cells (spA b) 32] := by rw [Go.Sort.alloc_eq_grow, Go.Sort.alloc_eq_grow, Go.Sort.grow_grow]; rfl
  have HG := Lib.hid hgw
  clear hgw
  generalize (w.alloc (.cells (spA a) 32)).alloc (.cells (spA b) 32) = W at *
  have HOR := Lib.hid (show Calls Tryz.prog 67 #[.slice (some ⟨W.heap.size, 0, none⟩) 2 2] (W.alloc (.cells #[.int .i64 C1, .int .i64 C2] 3)).drew fun e w' => e = .returned (.int .i64 R) ∧ (W.alloc (.cells #[.int .i64 C1, .int .i64 C2] 3)).drew = w' from by rw [HRR.out]; exact c_Or C1 C2 _ _ (((Blk.new W 3 #[.int .i64 C1, .int .i64 C2]).drew).cell 0) (((Blk.new W 3 #[.int .i64 C1, .int .i64 C2]).drew).cell 1))
  go_region_held3 (fun w' => (∀ b o, b < W.heap.size → w'.cell? ⟨b, o, none⟩ = W.cell? ⟨b, o, none⟩) ∧ (∀ b o, b < W.heap.size → w'.frozen? ⟨b, o, none⟩ = W.frozen? ⟨b, o, none⟩) ∧ Below W.heap.size W w') ((first | assumption | (refine kp_of ?_; (repeat' (first | assumption | exact below_refl _ | refine bl_alloc ?_ _ | refine Below.setCell ?_ ?_ _ | refine below_draw ?_ | refine below_drewN ?_ _ | refine below_tr ?_ (by assumption))) <;> (first | omega | (simp; done) | (simp; omega))))) ((first | (go_at_call 68; (with_reducible refine (HC1.out _).mono ?_); rintro e w' ⟨rfl, hw'⟩; subst hw') | (go_at_call 68; (with_reducible refine (HC2.out _).mono ?_); rintro e w' ⟨rfl, hw'⟩; subst hw') | (go_at_call 67; (with_reducible refine HOR.out.mono ?_); rintro e w' ⟨rfl, rfl⟩)))
  go_wp2
  go_ret
  refine ⟨rfl, 1, #[.cells (spA a) 32, .cells (spA b) 32, .cells #[.int .i64 C1, .int .i64 C2] 3], ?_⟩
  rw [HG.out, Go.Sort.alloc_eq_grow, Go.Sort.grow_grow]
  rfl
theorem p_cmp' (a b : Sp) (w : World) : Calls Tryz.prog 66 #[.agg a.cs.toArray, .agg b.cs.toArray] w fun e w' => e = .returned (.int .i64 (cmpS a b)) ∧ ∃ q os', w' = Go.Sort.grow (w.drewN q) os' := p_cmp a b w
end Go.Proofs.YthklgkgincebhaaGreatDoor
