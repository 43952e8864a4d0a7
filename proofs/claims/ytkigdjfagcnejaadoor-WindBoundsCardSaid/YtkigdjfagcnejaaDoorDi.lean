/- Wind cards: the reference's Next and asked. -/
import Derived.Test.YtkigdjfagcnejaaDoorDg
set_option linter.unusedSimpArgs false
set_option linter.unusedVariables false
namespace Go.Proofs.YtkigdjfagcnejaaDoor
open Go.RowKit

theorem nx_a {r : Ru} {st g : Int} (h : st < 0) (h2 : g < 0 ∨ r.s ≤ g) : nx r st g = 0 ∧ gB r st g = false := by
  constructor
  · unfold nx; rw [if_pos h, if_pos h2]
  · unfold gB; rcases h2 with h2 | h2
    · rw [decide_eq_false (show ¬ 0 ≤ g by omega)]; simp
    · rw [decide_eq_false (show ¬ g < r.s by omega)]; simp
theorem nx_b {r : Ru} {st g : Int} (h : st < 0) (h2 : ¬ (g < 0 ∨ r.s ≤ g)) : nx r st g = -1 ∧ gB r st g = true := by
  constructor
  · unfold nx; rw [if_pos h, if_neg h2]
  · unfold gB; rw [decide_eq_true h, decide_eq_true (by omega), decide_eq_true (by omega)]; rfl
theorem nx_c {r : Ru} {st g : Int} (h : ¬ st < 0) : nx r st g = (if g < 0 ∨ r.g ≤ g then 0 else if st + 1 = r.c then -1 else st + 1) ∧ gB r st g = false := by
  constructor
  · unfold nx; rw [if_neg h]
  · unfold gB; rw [decide_eq_false h]; rfl
set_option maxHeartbeats 1000000 in
theorem r_Next (r : Ru) (st g : Int) (w : World) (h0 : -1 ≤ st) (h1 : st < 1000) :
    Calls Tryd.prog 80 #[ruV r, .int .i64 st, .int .i64 g] w fun e w' => e = .returned (.tuple #[.int .i64 (nx r st g), .bool (gB r st g)]) ∧ Below w.heap.size w w' := by
  by_cases hs : st < 0
  · by_cases h2 : g < 0
    · obtain ⟨e1, e2⟩ := nx_a (r := r) hs (Or.inl h2)
      have E1 := Lib.hid e1
      have E2 := Lib.hid e2
      clear e1 e2
      go_enter Tryd.func80, Tryd.ntmps80
      go_wp2
      go_ret2
      exact ⟨by rw [E1.out, E2.out]; rfl, by (repeat' (first | assumption | exact below_refl _ | refine bl_alloc ?_ _ | refine Below.setCell ?_ ?_ _ | refine below_draw ?_ | refine below_drewN ?_ _ | refine below_tr ?_ (by assumption))) <;> (first | omega | (simp; done) | (simp; omega))⟩
    · by_cases h3 : r.s ≤ g
      · obtain ⟨e1, e2⟩ := nx_a (r := r) hs (Or.inr h3)
        have E1 := Lib.hid e1
        have E2 := Lib.hid e2
        clear e1 e2
        go_enter Tryd.func80, Tryd.ntmps80
        go_wp2
        go_ret2
        exact ⟨by rw [E1.out, E2.out]; rfl, by (repeat' (first | assumption | exact below_refl _ | refine bl_alloc ?_ _ | refine Below.setCell ?_ ?_ _ | refine below_draw ?_ | refine below_drewN ?_ _ | refine below_tr ?_ (by assumption))) <;> (first | omega | (simp; done) | (simp; omega))⟩
      · obtain ⟨e1, e2⟩ := nx_b (r := r) (g := g) hs (by omega)
        have E1 := Lib.hid e1
        have E2 := Lib.hid e2
        clear e1 e2
        go_enter Tryd.func80, Tryd.ntmps80
        go_wp2
        go_ret2
        exact ⟨by rw [E1.out, E2.out]; rfl, by (repeat' (first | assumption | exact below_refl _ | refine bl_alloc ?_ _ | refine Below.setCell ?_ ?_ _ | refine below_draw ?_ | refine below_drewN ?_ _ | refine below_tr ?_ (by assumption))) <;> (first | omega | (simp; done) | (simp; omega))⟩
  · obtain ⟨e1, e2⟩ := nx_c (r := r) (g := g) hs
    have E2 := Lib.hid e2
    have hw : IntKind.i64.wrap (st + 1) = st + 1 := fits_wrap (by omega)
    by_cases h2 : g < 0
    · rw [if_pos (Or.inl h2)] at e1
      have E1 := Lib.hid e1
      clear e1 e2
      go_enter Tryd.func80, Tryd.ntmps80
      go_wp2
      go_ret2
      exact ⟨by rw [E1.out, E2.out]; rfl, by (repeat' (first | assumption | exact below_refl _ | refine bl_alloc ?_ _ | refine Below.setCell ?_ ?_ _ | refine below_draw ?_ | refine below_drewN ?_ _ | refine below_tr ?_ (by assumption))) <;> (first | omega | (simp; done) | (simp; omega))⟩
    · by_cases h3 : r.g ≤ g
      · rw [if_pos (Or.inr h3)] at e1
        have E1 := Lib.hid e1
        clear e1 e2
        go_enter Tryd.func80, Tryd.ntmps80
        go_wp2
        go_ret2
        exact ⟨by rw [E1.out, E2.out]; rfl, by (repeat' (first | assumption | exact below_refl _ | refine bl_alloc ?_ _ | refine Below.setCell ?_ ?_ _ | refine below_draw ?_ | refine below_drewN ?_ _ | refine below_tr ?_ (by assumption))) <;> (first | omega | (simp; done) | (simp; omega))⟩
      · rw [if_neg (by omega)] at e1
        by_cases h4 : st + 1 = r.c
        · rw [if_pos h4] at e1
          have E1 := Lib.hid e1
          clear e1 e2
          go_enter Tryd.func80, Tryd.ntmps80
          go_wp2
          go_ret2
          exact ⟨by rw [E1.out, E2.out]; rfl, by (repeat' (first | assumption | exact below_refl _ | refine bl_alloc ?_ _ | refine Below.setCell ?_ ?_ _ | refine below_draw ?_ | refine below_drewN ?_ _ | refine below_tr ?_ (by assumption))) <;> (first | omega | (simp; done) | (simp; omega))⟩
        · rw [if_neg h4] at e1
          have E1 := Lib.hid e1
          clear e1 e2
          go_enter Tryd.func80, Tryd.ntmps80
          go_wp2
          go_ret2
          exact ⟨by rw [E1.out, E2.out]; rfl, by (repeat' (first | assumption | exact below_refl _ | refine bl_alloc ?_ _ | refine Below.setCell ?_ ?_ _ | refine below_draw ?_ | refine below_drewN ?_ _ | refine below_tr ?_ (by assumption))) <;> (first | omega | (simp; done) | (simp; omega))⟩
end Go.Proofs.YtkigdjfagcnejaaDoor
