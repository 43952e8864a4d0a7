/- Wind cards: Bounds of the program. -/
import Derived.Test.YtkigdjfagcnejaaDoorEg
set_option linter.unusedSimpArgs false
set_option linter.unusedVariables false
namespace Go.Proofs.YtkigdjfagcnejaaDoor
open Go.RowKit

theorem p_lss (x y : Int) (W : World) : Calls Tryd.prog 78 #[.int .i64 x, .int .i64 y] W fun e W' => e = .returned (.bool (bt true x y)) ∧ W = W' := by
  go_enter Tryd.func78, Tryd.ntmps78
  go_wp2
  go_ret
  exact ⟨ret_bool (by simp [bt]), rfl⟩
theorem p_gtr (x y : Int) (W : World) : Calls Tryd.prog 79 #[.int .i64 x, .int .i64 y] W fun e W' => e = .returned (.bool (bt false x y)) ∧ W = W' := by
  go_enter Tryd.func79, Tryd.ntmps79
  go_wp2
  go_ret
  exact ⟨ret_bool (by simp [bt]), rfl⟩
def BdP (r : Ru) (l : List Int) (w : World) (e : Ending) (w' : World) : Prop := ∃ a b : Int, e = .returned (.tuple #[.int .i64 a, .int .i64 b, .int .i64 (aE r l)]) ∧ BdV true r l a ∧ BdV false r l b ∧ Below w.heap.size w w'
set_option maxHeartbeats 2000000 in
theorem p_Bounds (A : Option Addr) (r : Ru) (l : List Int) (c : Nat) (w : World) (hl : l.length ≤ 100000) (hR : Rd zC 1 w A l) :
    Calls Tryd.prog 47 #[ruV r, .slice A l.length c] w (BdP r l w) := by
  have H1 := Lib.hid (fun W (h : Below w.heap.size w W) => p_asked A r l c W hl (hR.on h))
  by_cases h1 : aE r l = 0
  rotate_left
  · have HE := Lib.hid (aE_one h1)
    have HB := Lib.hid (fun b => show BdV b r l 0 by unfold BdV; rw [if_neg h1])
    rw [aE_one h1] at H1
    clear h1
    go_enter Tryd.func47, Tryd.ntmps47
    go_wp2_with (go_at_call 50; ((with_reducible refine (H1.out _ (bl_alloc (below_refl _) _)).mono ?_); rintro e w1 ⟨rfl, hb1⟩; obtain ⟨hc1, hf1⟩ := bcell hb1; have hz1 := hb1.size; (try simp [sz_drew, sz_drewN] at hz1); (try simp only [sz_drew, sz_drewN] at hc1 hf1); have z1_0 : w.heap.size < w1.heap.size := (by omega)))
    go_ret3
    exact ⟨0, 0, by rw [HE.out]; rfl, HB.out _, HB.out _, by (repeat' (first | assumption | exact below_refl _ | refine bl_alloc ?_ _ | refine Below.setCell ?_ ?_ _ | refine below_draw ?_ | refine below_drewN ?_ _ | refine below_tr ?_ (by assumption))) <;> (first | omega | (simp; done) | (simp; omega))⟩
  rw [h1] at H1
  obtain ⟨hv, hgu⟩ := a_z h1
  have HE := Lib.hid h1
  have HBD := Lib.hid (fun b v (h : Bst b (AllR r l) v) => show BdV b r l v by unfold BdV; rw [if_pos h1]; exact h)
  have HL := Lib.hid (fun W (h : Below w.heap.size w W) => p_bound true A r l c 78 W hv hgu (hR.on h) (enters_of Tryd.func78 (by kernel_rfl) rfl) (fun W x y => p_lss x y W))
  have HG := Lib.hid (fun W (h : Below w.heap.size w W) => p_bound false A r l c 79 W hv hgu (hR.on h) (enters_of Tryd.func79 (by kernel_rfl) rfl) (fun W x y => p_gtr x y W))
  clear h1 hv hgu
  go_enter Tryd.func47, Tryd.ntmps47
  go_wp2_with fail
  have x0 := Blk.new w 23 #[.int .i64 r.s, .int .i64 r.g, .int .i64 r.c]
  have B0 := bl_alloc (below_refl w) (.cells #[.int .i64 r.s, .int .i64 r.g, .int .i64 r.c] 23)
  have sz0 := World.size_alloc w (.cells #[.int .i64 r.s, .int .i64 r.g, .int .i64 r.c] 23)
  generalize w.alloc (.cells #[.int .i64 r.s, .int .i64 r.g, .int .i64 r.c] 23) = W0 at *
  refine (H1.out _ B0).mono ?_
  rintro e w1 ⟨rfl, hb1⟩
  have B1 := below_tr B0 hb1
  have x1 := x0.below hb1 x0.lt
  have q0 := x1.cell 0
  have q1 := x1.cell 1
  have q2 := x1.cell 2
  simp only [List.getElem?_toArray, List.getElem?_cons_zero, List.getElem?_cons_succ] at q0 q1 q2
  clear x0 hb1 sz0 B0 H1
  go_wp2_with fail
  refine (HL.out _ B1).mono ?_
  rintro e w2 ⟨a, rfl, ha, hb2⟩
  have HA := Lib.hid ha
  have B2 := below_tr B1 hb2
  have x2 := x1.below hb2 x1.lt
  have q0 := x2.cell 0
  have q1 := x2.cell 1
  have q2 := x2.cell 2
  simp only [List.getElem?_toArray, List.getElem?_cons_zero, List.getElem?_cons_succ] at q0 q1 q2
  clear x1 hb2 B1 ha HL
  go_wp2_with fail
  refine (HG.out _ B2).mono ?_
  rintro e w3 ⟨b, rfl, hb, hb3⟩
  have HB := Lib.hid hb
  have B3 := below_tr B2 hb3
  clear hb hb3 B2 HG
  go_wp2
  go_ret3
  exact ⟨a, b, by rw [HE.out]; rfl, HBD.out _ _ HA.out, HBD.out _ _ HB.out, B3⟩
end Go.Proofs.YtkigdjfagcnejaaDoor
