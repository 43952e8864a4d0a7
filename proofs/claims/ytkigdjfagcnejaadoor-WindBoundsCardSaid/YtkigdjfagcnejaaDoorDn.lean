/- Wind cards: Minutes of the program. -/
import Derived.Test.YtkigdjfagcnejaaDoorDm
set_option linter.unusedSimpArgs false
set_option linter.unusedVariables false
namespace Go.Proofs.YtkigdjfagcnejaaDoor
open Go.RowKit

theorem rd_subO {α : Type} {enc : α → List Value} {w : World} {A : Option Addr} {L : List α} (h : Rd enc 1 w A L) (f m : Nat) : Rd enc 1 w (A.map (fun x => x.add f)) ((L.drop f).take m) := fun hne => by
  obtain ⟨b, off, rfl, _, _⟩ := h (by rintro rfl; simp at hne)
  have h2 := rd_sub h f m hne
  rwa [show (some (⟨b, off, none⟩ : Addr)).map (fun x => x.add f) = some ⟨b, off + f, none⟩ by simp only [Option.map_some]; unfold Addr.add; split <;> simp_all]
set_option maxHeartbeats 1000000 in
theorem p_Minutes (A : Option Addr) (r : Ru) (l : List Int) (c : Nat) (fr tu : Int) (w : World) (hl : l.length ≤ 100000) (hR : Rd zC 1 w A l) :
    Calls Tryd.prog 34 #[ruV r, .slice A l.length c, .int .i64 fr, .int .i64 tu] w fun e w' => e = .returned (.tuple #[.int .i64 (miN r l fr tu : Nat), .int .i64 (miE r l fr tu)]) ∧ Below w.heap.size w w' := by
  have H1 := Lib.hid (fun W (h : Below w.heap.size w W) => p_asked A r l c W hl (hR.on h))
  by_cases h1 : aE r l = 0
  rotate_left
  · have HE := Lib.hid (show miE r l fr tu = 1 by unfold miE; rw [if_neg h1])
    have HB := Lib.hid (show miN r l fr tu = 0 by unfold miN; rw [HE.out]; rfl)
    rw [aE_one h1] at H1
    clear h1
    go_enter Tryd.func34, Tryd.ntmps34
    go_wp2_with (go_at_call 50; ((with_reducible refine (H1.out _ (bl_alloc (below_refl _) _)).mono ?_); rintro e w1 ⟨rfl, hb1⟩; obtain ⟨hc1, hf1⟩ := bcell hb1; have hz1 := hb1.size; (try simp [sz_drew, sz_drewN] at hz1); (try simp only [sz_drew, sz_drewN] at hc1 hf1); have z1_0 : w.heap.size < w1.heap.size := (by omega)))
    go_ret2
    exact ⟨by rw [HE.out, HB.out]; rfl, by (repeat' (first | assumption | exact below_refl _ | refine bl_alloc ?_ _ | refine Below.setCell ?_ ?_ _ | refine below_draw ?_ | refine below_drewN ?_ _ | refine below_tr ?_ (by assumption))) <;> (first | omega | (simp; done) | (simp; omega))⟩
  rw [h1] at H1
  obtain ⟨hv, hg⟩ := a_z h1
  have H2 := Lib.hid (fun W (h : Below w.heap.size w W) => p_gone A r l c W hv hg (hR.on h))
  cases h2 : wn fr 0 tu
  · have HE := Lib.hid (show miE r l fr tu = 7 by unfold miE; rw [if_pos h1, if_neg (by rintro ⟨a, b, _⟩; have := wn_iff.2 ⟨a, b⟩; rw [h2] at this; cases this)])
    have HB := Lib.hid (show miN r l fr tu = 0 by unfold miN; rw [HE.out]; rfl)
    have Q := Lib.hid (p_withinV h2)
    clear h1 hv hg h2
    go_enter Tryd.func34, Tryd.ntmps34
    go_wp2_with (first
      | ((go_at_call 50; ((with_reducible refine (H1.out _ (bl_alloc (below_refl _) _)).mono ?_); rintro e w1 ⟨rfl, hb1⟩; obtain ⟨hc1, hf1⟩ := bcell hb1; have hz1 := hb1.size; (try simp [sz_drew, sz_drewN] at hz1); (try simp only [sz_drew, sz_drewN] at hc1 hf1); have z1_0 : w.heap.size < w1.heap.size := (by omega))))
      | (go_at_call 55; ((with_reducible refine (Q.out _).mono ?_); rintro e w' ⟨rfl, rfl⟩)))
    go_ret2
    exact ⟨by rw [HE.out, HB.out]; rfl, by (repeat' (first | assumption | exact below_refl _ | refine bl_alloc ?_ _ | refine Below.setCell ?_ ?_ _ | refine below_draw ?_ | refine below_drewN ?_ _ | refine below_tr ?_ (by assumption))) <;> (first | omega | (simp; done) | (simp; omega))⟩
  have Q := Lib.hid (p_withinV h2)
  by_cases h3 : (l.length : Int) < tu
  · have HE := Lib.hid (show miE r l fr tu = 7 by unfold miE; rw [if_pos h1, if_neg (by rintro ⟨a, b, _⟩; omega)])
    have HB := Lib.hid (show miN r l fr tu = 0 by unfold miN; rw [HE.out]; rfl)
    clear h1 hv hg h2
    go_enter Tryd.func34, Tryd.ntmps34
    go_wp2_with (first
      | ((go_at_call 50; ((with_reducible refine (H1.out _ (bl_alloc (below_refl _) _)).mono ?_); rintro e w1 ⟨rfl, hb1⟩; obtain ⟨hc1, hf1⟩ := bcell hb1; have hz1 := hb1.size; (try simp [sz_drew, sz_drewN] at hz1); (try simp only [sz_drew, sz_drewN] at hc1 hf1); have z1_0 : w.heap.size < w1.heap.size := (by omega))))
      | (go_at_call 55; ((with_reducible refine (Q.out _).mono ?_); rintro e w' ⟨rfl, rfl⟩)))
    go_ret2
    exact ⟨by rw [HE.out, HB.out]; rfl, by (repeat' (first | assumption | exact below_refl _ | refine bl_alloc ?_ _ | refine Below.setCell ?_ ?_ _ | refine below_draw ?_ | refine below_drewN ?_ _ | refine below_tr ?_ (by assumption))) <;> (first | omega | (simp; done) | (simp; omega))⟩
  obtain ⟨m0, m1⟩ := wn_iff.1 h2
  have HE := Lib.hid (show miE r l fr tu = 0 by unfold miE; rw [if_pos h1, if_pos ⟨m0, m1, by omega⟩])
  obtain ⟨f, rfl⟩ := Int.eq_ofNat_of_zero_le m0
  obtain ⟨m, rfl⟩ : ∃ m : Nat, tu = (f : Int) + m := ⟨(tu - f).toNat, by omega⟩
  have HB := Lib.hid (show miN r l f ((f : Int) + m) = cnS (gA r l) f m by unfold miN; rw [if_pos HE.out, show ((f : Int)).toNat = f by omega, show ((f : Int) + m - f).toNat = m by omega])
  have HGL := Lib.hid (goL_len r l)
  have HGA := Lib.hid (fun k x h => goL_at (r := r) (l := l) (k := k) (x := x) h)
  have hfm : f + m ≤ l.length := by omega
  clear h1 hv hg h2
  go_enter Tryd.func34, Tryd.ntmps34
  go_wp2_with fail
  have x0 := Blk.new w 23 #[.int .i64 r.s, .int .i64 r.g, .int .i64 r.c]
  have B0 := bl_alloc (below_refl w) (.cells #[.int .i64 r.s, .int .i64 r.g, .int .i64 r.c] 23)
  generalize w.alloc (.cells #[.int .i64 r.s, .int .i64 r.g, .int .i64 r.c] 23) = W0 at *
  refine (H1.out _ B0).mono ?_
  rintro e w1 ⟨rfl, hb1⟩
  have B1 := below_tr B0 hb1
  have x1 := x0.below hb1 x0.lt
  have q0 := x1.cell 0
  have q1 := x1.cell 1
  have q2 := x1.cell 2
  simp only [List.getElem?_toArray, List.getElem?_cons_zero, List.getElem?_cons_succ] at q0 q1 q2
  clear hb1 x0 B0 H1
  go_wp2_with (first
    | (go_at_call 55; ((with_reducible refine (Q.out _).mono ?_); rintro e w' ⟨rfl, rfl⟩))
    | (go_at_call 51; fail))
  refine (H2.out _ B1).mono ?_
  rintro e w2 ⟨v, rfl, hv2, hb2⟩
  obtain ⟨A2, c2, rfl, hr2, hc2, hc3⟩ := own_rdc bC_len hv2
  have B2 := below_tr B1 hb2
  rw [HGL.out] at hc2 ⊢
  clear hv2 hb2 B1 q0 q1 q2 x1
  have f0 : (0 : Int) ≤ (f : Int) := Int.natCast_nonneg _
  have f1 : (f : Int) ≤ (f : Int) + m := by omega
  have f2 : (f : Int) + m ≤ (c2 : Int) := by omega
  have HC : Hid (Calls Tryd.prog 70 #[.slice (A2.map (fun x => x.add f)) m (c2 - f)] w2 fun e w' => e = .returned (.int .i64 (cnS (gA r l) f m : Nat)) ∧ w2 = w') := Lib.hid (by
    have hlen : (((goL r l).drop f).take m).length = m := by rw [List.length_take, List.length_drop, HGL.out]; omega
    have h := p_count (A2.map (fun x => x.add f)) (((goL r l).drop f).take m) (c2 - f) (gA r l) f w2 (by omega) (rd_subO hr2 f m) (fun k x hx => by
      rw [List.getElem?_take] at hx
      split at hx
      · rw [List.getElem?_drop] at hx
        exact HGA.out _ _ hx
      · cases hx)
    rwa [hlen] at h)
  have HC0 : Hid (c2 = f → Calls Tryd.prog 70 #[.slice A2 m 0] w2 fun e w' => e = .returned (.int .i64 (cnS (gA r l) f m : Nat)) ∧ w2 = w') := Lib.hid (fun hcf => by
    obtain rfl : m = 0 := by omega
    exact p_count A2 [] 0 (gA r l) f w2 (by simp) (fun hne => absurd rfl hne) (fun k x hx => by simp at hx))
  clear hr2
  go_wp2_with fail
  · have hcf : c2 = f := by assumption
    refine (HC0.out hcf).mono ?_
    rintro e w' ⟨rfl, rfl⟩
    go_wp2
    go_ret2
    exact ⟨by rw [HE.out, HB.out]; rfl, B2⟩
  refine HC.out.mono ?_
  rintro e w' ⟨rfl, rfl⟩
  go_wp2
  go_ret2
  exact ⟨by rw [HE.out, HB.out]; rfl, B2⟩
end Go.Proofs.YtkigdjfagcnejaaDoor
