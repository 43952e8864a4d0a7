/- Wind cards: Minutes of the reference. -/
import Derived.Test.YtkigdjfagcnejaaDoorDn
set_option linter.unusedSimpArgs false
set_option linter.unusedVariables false
namespace Go.Proofs.YtkigdjfagcnejaaDoor
open Go.RowKit

set_option maxHeartbeats 1000000 in
set_option maxRecDepth 20000 in
theorem r_minutes (A : Option Addr) (r : Ru) (l : List Int) (c f m : Nat) (w : World) (hl : l.length ≤ 100000) (hv : vRu r = true) (hg : vGu l = true) (hR : Rd zC 1 w A l) (hfm : f + m ≤ l.length) :
    Calls Tryd.prog 71 #[ruV r, .slice A l.length c, .int .i64 (f : Nat), .int .i64 ((f : Int) + (m : Nat))] w fun e w' => e = .returned (.int .i64 (cnS (gA r l) f m : Nat)) ∧ Below w.heap.size w w' := by
  have H2 := Lib.hid (fun W (h : Below w.heap.size w W) => r_going A r l c W hl hv hg (hR.on h))
  have HGL := Lib.hid (goL_len r l)
  have HGA := Lib.hid (fun k x h => goL_at (r := r) (l := l) (k := k) (x := x) h)
  have HY := Lib.hid (fun k (h : gA r l (f + k) = true) => cnS_yes h)
  have HN := Lib.hid (fun k (h : gA r l (f + k) = false) => cnS_no h)
  have HLe := Lib.hid (cnS_le (gA r l) f)
  clear hv hg
  go_enter Tryd.func71, Tryd.ntmps71
  go_wp2_with fail
  have B0 := bl_alloc (below_refl w) (.cells #[.int .i64 r.s, .int .i64 r.g, .int .i64 r.c] 23)
  generalize w.alloc (.cells #[.int .i64 r.s, .int .i64 r.g, .int .i64 r.c] 23) = W0 at *
  refine (H2.out _ B0).mono ?_
  rintro e w2 ⟨v, rfl, hv2, hb2⟩
  obtain ⟨A2, c2, rfl, hr2⟩ := own_bools hv2
  have B2 := below_tr B0 hb2
  have hGl := HGL.out
  generalize hGG : goL r l = G at *
  have HGG := Lib.hid hGG
  clear hv2 hb2 B0 hGG
  have hgl2 : G.length ≤ 100000 := by omega
  have hfm2 : f + m ≤ G.length := by omega
  clear hGl
  go_wp2_with fail
  go_loopw [11, 12] (fun n i wr => ∃ k : Nat, k ≤ m ∧ i = .int .i64 ((f : Int) + k) ∧ n = .int .i64 (cnS (gA r l) f k : Nat) ∧ wr = w2) (fun _ i _ => ((f : Int) + m - intOf i).toNat)
  case atStart => exact ⟨0, by omega, by simp, rfl, rfl⟩
  case round =>
    obtain ⟨k, hk, rfl, rfl, rfl⟩ := hrel
    have k0 : (0 : Int) ≤ (k : Int) := Int.natCast_nonneg _
    have f0 : (0 : Int) ≤ (f : Int) := Int.natCast_nonneg _
    by_cases hlt : k < m
    · have k1 : (f : Int) + (k : Int) < (f : Int) + (m : Int) := by omega
      have k2 : (k : Int) < (m : Int) := by omega
      have k3 : (f : Int) + (k : Int) < (G.length : Int) := by omega
      have k4 : (0 : Int) ≤ (f : Int) + (k : Int) := by omega
      obtain ⟨x, b, off, hx, rfl, hb, c0⟩ := rdB hr2 (show f + k < G.length by omega)
      have hpx := HGA.out (f + k) x hx
      have hle := HLe.out k
      have hnn : ((f : Int) + (k : Int)).toNat = f + k := by omega
      have hw2 : IntKind.i64.wrap ((f : Int) + (k : Int) + 1) = (f : Int) + (k : Int) + 1 := fits_wrap (by omega)
      clear hx
      cases x
      · have HS := Lib.hid (HN.out k hpx)
        generalize cnS (gA r l) f k = C at *
        clear hpx
        go_wp2
        go_roundw
        case rel => exact ⟨k + 1, by omega, by congr 1, by rw [HS.out], trivial⟩
        case measure => simp [intOf]; omega
      · have HS := Lib.hid (HY.out k hpx)
        generalize cnS (gA r l) f k = C at *
        have hw1 : IntKind.i64.wrap ((C : Int) + 1) = (C : Int) + 1 := fits_wrap (by omega)
        clear hpx
        go_wp2
        go_roundw
        case rel => exact ⟨k + 1, by omega, by congr 1, by rw [HS.out]; simp, trivial⟩
        case measure => simp [intOf]; omega
    · obtain rfl : k = m := by omega
      go_wp2
      go_ret
      exact ⟨rfl, B2⟩
set_option maxHeartbeats 1000000 in
theorem r_Minutes (A : Option Addr) (r : Ru) (l : List Int) (c : Nat) (fr tu : Int) (w : World) (hl : l.length ≤ 100000) (hR : Rd zC 1 w A l) :
    Calls Tryd.prog 35 #[ruV r, .slice A l.length c, .int .i64 fr, .int .i64 tu] w fun e w' => e = .returned (.tuple #[.int .i64 (miN r l fr tu : Nat), .int .i64 (miE r l fr tu)]) ∧ Below w.heap.size w w' := by
  have H1 := Lib.hid (fun W (h : Below w.heap.size w W) => r_asked A r l c W hl (hR.on h))
  by_cases h1 : aE r l = 0
  rotate_left
  · have HE := Lib.hid (show miE r l fr tu = 1 by unfold miE; rw [if_neg h1])
    have HB := Lib.hid (show miN r l fr tu = 0 by unfold miN; rw [HE.out]; rfl)
    rw [aE_one h1] at H1
    clear h1
    go_enter Tryd.func35, Tryd.ntmps35
    go_wp2_with (go_at_call 65; ((with_reducible refine (H1.out _ (bl_alloc (below_refl _) _)).mono ?_); rintro e w1 ⟨rfl, hb1⟩; obtain ⟨hc1, hf1⟩ := bcell hb1; have hz1 := hb1.size; (try simp [sz_drew, sz_drewN] at hz1); (try simp only [sz_drew, sz_drewN] at hc1 hf1); have z1_0 : w.heap.size < w1.heap.size := (by omega)))
    go_ret2
    exact ⟨by rw [HE.out, HB.out]; rfl, by (repeat' (first | assumption | exact below_refl _ | refine bl_alloc ?_ _ | refine Below.setCell ?_ ?_ _ | refine below_draw ?_ | refine below_drewN ?_ _ | refine below_tr ?_ (by assumption))) <;> (first | omega | (simp; done) | (simp; omega))⟩
  rw [h1] at H1
  obtain ⟨hv, hg⟩ := a_z h1
  cases h2 : wn tu 0 (l.length : Int)
  · have HE := Lib.hid (show miE r l fr tu = 7 by unfold miE; rw [if_pos h1, if_neg (by rintro ⟨a, b, d⟩; have := wn_iff.2 (⟨by omega, d⟩ : 0 ≤ tu ∧ tu ≤ (l.length : Int)); rw [h2] at this; cases this)])
    have HB := Lib.hid (show miN r l fr tu = 0 by unfold miN; rw [HE.out]; rfl)
    have Q := Lib.hid (r_withinV h2)
    clear h1 hv hg h2
    go_enter Tryd.func35, Tryd.ntmps35
    go_wp2_with (first
      | ((go_at_call 65; ((with_reducible refine (H1.out _ (bl_alloc (below_refl _) _)).mono ?_); rintro e w1 ⟨rfl, hb1⟩; obtain ⟨hc1, hf1⟩ := bcell hb1; have hz1 := hb1.size; (try simp [sz_drew, sz_drewN] at hz1); (try simp only [sz_drew, sz_drewN] at hc1 hf1); have z1_0 : w.heap.size < w1.heap.size := (by omega))))
      | (go_at_call 54; ((with_reducible refine (Q.out _).mono ?_); rintro e w' ⟨rfl, rfl⟩)))
    go_ret2
    exact ⟨by rw [HE.out, HB.out]; rfl, by (repeat' (first | assumption | exact below_refl _ | refine bl_alloc ?_ _ | refine Below.setCell ?_ ?_ _ | refine below_draw ?_ | refine below_drewN ?_ _ | refine below_tr ?_ (by assumption))) <;> (first | omega | (simp; done) | (simp; omega))⟩
  have Q := Lib.hid (r_withinV h2)
  cases h3 : wn fr 0 tu
  · have HE := Lib.hid (show miE r l fr tu = 7 by unfold miE; rw [if_pos h1, if_neg (by rintro ⟨a, b, d⟩; have := wn_iff.2 (⟨a, b⟩ : 0 ≤ fr ∧ fr ≤ tu); rw [h3] at this; cases this)])
    have HB := Lib.hid (show miN r l fr tu = 0 by unfold miN; rw [HE.out]; rfl)
    have Q2 := Lib.hid (r_withinV h3)
    clear h1 hv hg h2 h3
    go_enter Tryd.func35, Tryd.ntmps35
    go_wp2_with (first
      | ((go_at_call 65; ((with_reducible refine (H1.out _ (bl_alloc (below_refl _) _)).mono ?_); rintro e w1 ⟨rfl, hb1⟩; obtain ⟨hc1, hf1⟩ := bcell hb1; have hz1 := hb1.size; (try simp [sz_drew, sz_drewN] at hz1); (try simp only [sz_drew, sz_drewN] at hc1 hf1); have z1_0 : w.heap.size < w1.heap.size := (by omega))))
      | (go_at_call 54; ((with_reducible refine (Q.out _).mono ?_); rintro e w' ⟨rfl, rfl⟩))
      | (go_at_call 54; ((with_reducible refine (Q2.out _).mono ?_); rintro e w' ⟨rfl, rfl⟩)))
    go_ret2
    exact ⟨by rw [HE.out, HB.out]; rfl, by (repeat' (first | assumption | exact below_refl _ | refine bl_alloc ?_ _ | refine Below.setCell ?_ ?_ _ | refine below_draw ?_ | refine below_drewN ?_ _ | refine below_tr ?_ (by assumption))) <;> (first | omega | (simp; done) | (simp; omega))⟩
  have Q2 := Lib.hid (r_withinV h3)
  obtain ⟨t0, t1⟩ := wn_iff.1 h2
  obtain ⟨m0, m1⟩ := wn_iff.1 h3
  have HE := Lib.hid (show miE r l fr tu = 0 by unfold miE; rw [if_pos h1, if_pos ⟨m0, m1, by omega⟩])
  obtain ⟨f, rfl⟩ := Int.eq_ofNat_of_zero_le m0
  obtain ⟨m, rfl⟩ : ∃ m : Nat, tu = (f : Int) + m := ⟨(tu - f).toNat, by omega⟩
  have HB := Lib.hid (show miN r l f ((f : Int) + m) = cnS (gA r l) f m by unfold miN; rw [if_pos HE.out, show ((f : Int)).toNat = f by omega, show ((f : Int) + m - f).toNat = m by omega])
  have hfm : f + m ≤ l.length := by omega
  have H2 := Lib.hid (fun W (h : Below w.heap.size w W) => r_minutes A r l c f m W hl hv hg (hR.on h) hfm)
  clear h1 hv hg h2 h3
  go_enter Tryd.func35, Tryd.ntmps35
  go_wp2_with fail
  have x0 := Blk.new w 23 #[.int .i64 r.s, .int .i64 r.g, .int .i64 r.c]
  have B0 := bl_alloc (below_refl w) (.cells #[.int .i64 r.s, .int .i64 r.g, .int .i64 r.c] 23)
  generalize w.alloc (.cells #[.int .i64 r.s, .int .i64 r.g, .int .i64 r.c] 23) = W0 at *
  refine (H1.out _ B0).mono ?_
  rintro e w1 ⟨rfl, hb1⟩
  have B1 := below_tr B0 hb1
  have x1 := x0.below hb1 x0.lt
  have q0 := x1.cell 0
  have q1 := x1.cell 1
  have q2 := x1.cell 2
  simp only [List.getElem?_toArray, List.getElem?_cons_zero, List.getElem?_cons_succ] at q0 q1 q2
  clear hb1 x0 B0 H1
  go_wp2_with (first
    | (go_at_call 54; ((with_reducible refine (Q.out _).mono ?_); rintro e w' ⟨rfl, rfl⟩))
    | (go_at_call 54; ((with_reducible refine (Q2.out _).mono ?_); rintro e w' ⟨rfl, rfl⟩))
    | (go_at_call 71; ((with_reducible refine (H2.out _ B1).mono ?_); rintro e w2 ⟨rfl, hb2⟩)))
  go_ret2
  exact ⟨by rw [HE.out, HB.out]; rfl, below_tr B1 hb2⟩
end Go.Proofs.YtkigdjfagcnejaaDoor
