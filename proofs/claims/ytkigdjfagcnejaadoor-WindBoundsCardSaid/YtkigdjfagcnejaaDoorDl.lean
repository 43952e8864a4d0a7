/- Wind cards: Stops, Goes and Resumes of the reference. -/
import Derived.Test.YtkigdjfagcnejaaDoorDk
set_option linter.unusedSimpArgs false
set_option linter.unusedVariables false
namespace Go.Proofs.YtkigdjfagcnejaaDoor
open Go.RowKit

theorem goL_at {r : Ru} {l : List Int} {k : Nat} {x : Bool} (h : (goL r l)[k]? = some x) : gA r l k = x := by
  have hk : k < l.length := by have := (List.getElem?_eq_some_iff.1 h).1; rwa [goL_len] at this
  rw [gA_at hk] at h; exact Option.some.inj h
set_option maxHeartbeats 1000000 in
theorem r_Stops (A : Option Addr) (r : Ru) (l : List Int) (c : Nat) (w : World) (hl : l.length ≤ 100000) (hR : Rd zC 1 w A l) :
    Calls Tryd.prog 28 #[ruV r, .slice A l.length c] w fun e w' => ∃ v, e = .returned (.tuple #[v, .int .i64 (aE r l)]) ∧ GotP w' v (stL r l) ∧ Below w.heap.size w w' := by
  have H1 := Lib.hid (fun W (h : Below w.heap.size w W) => r_asked A r l c W hl (hR.on h))
  by_cases h1 : aE r l = 0
  rotate_left
  · have HL := Lib.hid (show stL r l = [] by unfold stL; rw [if_neg h1])
    have HE := Lib.hid (aE_one h1)
    rw [aE_one h1] at H1
    clear h1
    go_enter Tryd.func28, Tryd.ntmps28
    go_wp2_with (go_at_call 65; ((with_reducible refine (H1.out _ (bl_alloc (below_refl _) _)).mono ?_); rintro e w1 ⟨rfl, hb1⟩; obtain ⟨hc1, hf1⟩ := bcell hb1; have hz1 := hb1.size; (try simp [sz_drew, sz_drewN] at hz1); (try simp only [sz_drew, sz_drewN] at hc1 hf1); have z1_0 : w.heap.size < w1.heap.size := (by omega)))
    go_ret2
    exact ⟨_, by rw [HE.out]; rfl, by rw [HL.out]; exact gotP_nil _, by (repeat' (first | assumption | exact below_refl _ | refine bl_alloc ?_ _ | refine Below.setCell ?_ ?_ _ | refine below_draw ?_ | refine below_drewN ?_ _ | refine below_tr ?_ (by assumption))) <;> (first | omega | (simp; done) | (simp; omega))⟩
  rw [h1] at H1
  obtain ⟨hv, hg⟩ := a_z h1
  have HE := Lib.hid h1
  have HL := Lib.hid (show stL r l = spS (stP r l) l.length by unfold stL; rw [if_pos h1])
  have H2 := Lib.hid (fun W (h : Below w.heap.size w W) => r_going A r l c W hl hv hg (hR.on h))
  have H3 := Lib.hid (fun D d W (hD : Rd bC 1 W D (goL r l)) => r_spans D (goL r l) d false (stP r l) W (by rw [goL_len]; exact hl) hD (fun k x hx => by unfold stP; rw [goL_at hx]; cases x <;> rfl))
  have HGL := Lib.hid (goL_len r l)
  clear h1 hv hg
  go_enter Tryd.func28, Tryd.ntmps28
  go_wp2_with fail
  have x0 := Blk.new w 23 #[.int .i64 r.s, .int .i64 r.g, .int .i64 r.c]
  have B0 := bl_alloc (below_refl w) (.cells #[.int .i64 r.s, .int .i64 r.g, .int .i64 r.c] 23)
  generalize w.alloc (.cells #[.int .i64 r.s, .int .i64 r.g, .int .i64 r.c] 23) = W0 at *
  refine (H1.out _ B0).mono ?_
  rintro e w1 ⟨rfl, hb1⟩
  have B1 := below_tr B0 hb1
  have x1 := x0.below hb1 x0.lt
  have q0 := x1.cell 0
  have q1 := x1.cell 1
  have q2 := x1.cell 2
  simp only [List.getElem?_toArray, List.getElem?_cons_zero, List.getElem?_cons_succ] at q0 q1 q2
  clear hb1 x0 B0 H1
  go_wp2_with fail
  refine (H2.out _ B1).mono ?_
  rintro e w2 ⟨v, rfl, hv2, hb2⟩
  obtain ⟨A2, c2, rfl, hr2⟩ := own_bools hv2
  have B2 := below_tr B1 hb2
  have x2 := x1.below hb2 x1.lt
  clear q0 q1 q2 hb2 hv2 B1 x1
  go_wp2_with fail
  refine (H3.out A2 c2 w2 hr2).mono ?_
  rintro e w4 ⟨v, rfl, hv4, hb4⟩
  rw [HGL.out] at hv4
  obtain ⟨A4, c4, rfl, hr4⟩ := own_rd pC_len hv4
  go_wp2
  go_ret2
  exact ⟨_, by rw [HE.out]; rfl, by rw [HL.out]; exact ⟨_, _, rfl, hr4⟩, below_tr B2 hb4⟩
set_option maxHeartbeats 1000000 in
theorem r_Goes (A : Option Addr) (r : Ru) (l : List Int) (c : Nat) (m : Int) (w : World) (hl : l.length ≤ 100000) (hR : Rd zC 1 w A l) :
    Calls Tryd.prog 33 #[ruV r, .slice A l.length c, .int .i64 m] w fun e w' => e = .returned (.tuple #[.bool (goB r l m), .int .i64 (goE r l m)]) ∧ Below w.heap.size w w' := by
  have H1 := Lib.hid (fun W (h : Below w.heap.size w W) => r_asked A r l c W hl (hR.on h))
  by_cases h1 : aE r l = 0
  rotate_left
  · have HE := Lib.hid (show goE r l m = 1 by unfold goE; rw [if_neg h1])
    have HB := Lib.hid (show goB r l m = false by unfold goB; rw [HE.out]; rfl)
    rw [aE_one h1] at H1
    clear h1
    go_enter Tryd.func33, Tryd.ntmps33
    go_wp2_with (go_at_call 65; ((with_reducible refine (H1.out _ (bl_alloc (below_refl _) _)).mono ?_); rintro e w1 ⟨rfl, hb1⟩; obtain ⟨hc1, hf1⟩ := bcell hb1; have hz1 := hb1.size; (try simp [sz_drew, sz_drewN] at hz1); (try simp only [sz_drew, sz_drewN] at hc1 hf1); have z1_0 : w.heap.size < w1.heap.size := (by omega)))
    go_ret2
    exact ⟨by rw [HE.out, HB.out]; rfl, by (repeat' (first | assumption | exact below_refl _ | refine bl_alloc ?_ _ | refine Below.setCell ?_ ?_ _ | refine below_draw ?_ | refine below_drewN ?_ _ | refine below_tr ?_ (by assumption))) <;> (first | omega | (simp; done) | (simp; omega))⟩
  rw [h1] at H1
  obtain ⟨hv, hg⟩ := a_z h1
  have H2 := Lib.hid (fun W (h : Below w.heap.size w W) => r_going A r l c W hl hv hg (hR.on h))
  have hwr : IntKind.i64.wrap ((l.length : Int) - 1) = (l.length : Int) - 1 := fits_wrap (by omega)
  cases h2 : wn m 0 ((l.length : Int) - 1)
  · have HE := Lib.hid (show goE r l m = 7 by unfold goE; rw [if_pos h1, if_neg (by simp [h2])])
    have HB := Lib.hid (show goB r l m = false by unfold goB; rw [HE.out]; rfl)
    have Q := Lib.hid (r_withinV h2)
    clear h1 hv hg
    go_enter Tryd.func33, Tryd.ntmps33
    go_wp2_with (first
      | ((go_at_call 65; ((with_reducible refine (H1.out _ (bl_alloc (below_refl _) _)).mono ?_); rintro e w1 ⟨rfl, hb1⟩; obtain ⟨hc1, hf1⟩ := bcell hb1; have hz1 := hb1.size; (try simp [sz_drew, sz_drewN] at hz1); (try simp only [sz_drew, sz_drewN] at hc1 hf1); have z1_0 : w.heap.size < w1.heap.size := (by omega))))
      | (go_at_call 54; ((with_reducible refine (Q.out _).mono ?_); rintro e w' ⟨rfl, rfl⟩)))
    go_ret2
    exact ⟨by rw [HE.out, HB.out]; rfl, by (repeat' (first | assumption | exact below_refl _ | refine bl_alloc ?_ _ | refine Below.setCell ?_ ?_ _ | refine below_draw ?_ | refine below_drewN ?_ _ | refine below_tr ?_ (by assumption))) <;> (first | omega | (simp; done) | (simp; omega))⟩
  have HE := Lib.hid (show goE r l m = 0 by unfold goE; rw [if_pos h1, if_pos h2])
  obtain ⟨m0, m1⟩ := wn_iff.1 h2
  obtain ⟨k, rfl⟩ := Int.eq_ofNat_of_zero_le m0
  have HB := Lib.hid (show goB r l (k : Int) = gA r l k by unfold goB; rw [if_pos HE.out, show ((k : Int)).toNat = k by omega])
  have Q := Lib.hid (r_withinV h2)
  have HGL := Lib.hid (goL_len r l)
  have HGA := Lib.hid (gA_at (r := r) (l := l) (k := k) (by omega))
  have k1 : (k : Int) < (l.length : Int) := by omega
  generalize goL r l = G at *
  have k2 : (k : Int) < (G.length : Int) := by have := HGL.out; omega
  clear h1 hv hg
  go_enter Tryd.func33, Tryd.ntmps33
  go_wp2_with fail
  have x0 := Blk.new w 23 #[.int .i64 r.s, .int .i64 r.g, .int .i64 r.c]
  have B0 := bl_alloc (below_refl w) (.cells #[.int .i64 r.s, .int .i64 r.g, .int .i64 r.c] 23)
  generalize w.alloc (.cells #[.int .i64 r.s, .int .i64 r.g, .int .i64 r.c] 23) = W0 at *
  refine (H1.out _ B0).mono ?_
  rintro e w1 ⟨rfl, hb1⟩
  have B1 := below_tr B0 hb1
  have x1 := x0.below hb1 x0.lt
  have q0 := x1.cell 0
  have q1 := x1.cell 1
  have q2 := x1.cell 2
  simp only [List.getElem?_toArray, List.getElem?_cons_zero, List.getElem?_cons_succ] at q0 q1 q2
  clear hb1 x0 B0 H1
  go_wp2_with (first
    | (go_at_call 54; ((with_reducible refine (Q.out _).mono ?_); rintro e w' ⟨rfl, rfl⟩))
    | (go_at_call 66; ((with_reducible refine (H2.out _ B1).mono ?_); rintro e w2 ⟨v, rfl, hv2, hb2⟩; obtain ⟨A2, c2, rfl, hr2⟩ := own_bools hv2; obtain ⟨x, b, off, hx, rfl, hb, d0⟩ := rdB hr2 (show k < G.length by omega))))
  go_ret2
  have hxx : x = gA r l k := by have := HGA.out; rw [hx] at this; exact Option.some.inj this
  exact ⟨by rw [HE.out, HB.out, hxx]; rfl, below_tr B1 hb2⟩
set_option maxHeartbeats 1000000 in
theorem r_Resumes (A : Option Addr) (r : Ru) (l : List Int) (c : Nat) (w : World) (hl : l.length ≤ 100000) (hR : Rd zC 1 w A l) :
    Calls Tryd.prog 38 #[ruV r, .slice A l.length c] w fun e w' => e = .returned (.tuple #[.int .i64 (rsN r l), .int .i64 (rsE r l)]) ∧ Below w.heap.size w w' := by
  have H1 := Lib.hid (fun W (h : Below w.heap.size w W) => r_asked A r l c W hl (hR.on h))
  by_cases h1 : aE r l = 0
  rotate_left
  · have HE := Lib.hid (show rsE r l = 1 by unfold rsE; rw [if_neg h1])
    have HB := Lib.hid (show rsN r l = 0 by unfold rsN; rw [HE.out]; rfl)
    rw [aE_one h1] at H1
    clear h1
    go_enter Tryd.func38, Tryd.ntmps38
    go_wp2_with (go_at_call 65; ((with_reducible refine (H1.out _ (bl_alloc (below_refl _) _)).mono ?_); rintro e w1 ⟨rfl, hb1⟩; obtain ⟨hc1, hf1⟩ := bcell hb1; have hz1 := hb1.size; (try simp [sz_drew, sz_drewN] at hz1); (try simp only [sz_drew, sz_drewN] at hc1 hf1); have z1_0 : w.heap.size < w1.heap.size := (by omega)))
    go_ret2
    exact ⟨by rw [HE.out, HB.out]; rfl, by (repeat' (first | assumption | exact below_refl _ | refine bl_alloc ?_ _ | refine Below.setCell ?_ ?_ _ | refine below_draw ?_ | refine below_drewN ?_ _ | refine below_tr ?_ (by assumption))) <;> (first | omega | (simp; done) | (simp; omega))⟩
  rw [h1] at H1
  obtain ⟨hv, hg⟩ := a_z h1
  have H2 := Lib.hid (fun W (h : Below w.heap.size w W) => r_going A r l c W hl hv hg (hR.on h))
  have HZ := Lib.hid h1
  have hb := stA_bd hv l l.length
  have hrv := vru hv
  by_cases hs : stA r l l.length < 0
  · have HE := Lib.hid (show rsE r l = 10 by unfold rsE; rw [if_pos HZ.out, if_pos hs])
    have HB := Lib.hid (show rsN r l = 0 by unfold rsN; rw [HE.out]; rfl)
    generalize stA r l l.length = σ at *
    clear h1 hv hg
    go_enter Tryd.func38, Tryd.ntmps38
    go_wp2_with fail
    have x0 := Blk.new w 23 #[.int .i64 r.s, .int .i64 r.g, .int .i64 r.c]
    have B0 := bl_alloc (below_refl w) (.cells #[.int .i64 r.s, .int .i64 r.g, .int .i64 r.c] 23)
    generalize w.alloc (.cells #[.int .i64 r.s, .int .i64 r.g, .int .i64 r.c] 23) = W0 at *
    refine (H1.out _ B0).mono ?_
    rintro e w1 ⟨rfl, hb1⟩
    have B1 := below_tr B0 hb1
    have x1 := x0.below hb1 x0.lt
    have q0 := x1.cell 0
    have q1 := x1.cell 1
    have q2 := x1.cell 2
    simp only [List.getElem?_toArray, List.getElem?_cons_zero, List.getElem?_cons_succ] at q0 q1 q2
    clear hb1 x0 B0 H1
    go_wp2_with fail
    refine (H2.out _ B1).mono ?_
    rintro e w2 ⟨v, rfl, hv2, hb2⟩
    obtain ⟨A2, c2, rfl, hr2⟩ := own_bools hv2
    have B2 := below_tr B1 hb2
    have x2 := x1.below hb2 x1.lt
    clear q0 q1 q2 hb2 hv2 B1 x1
    go_wp2
    go_ret2
    exact ⟨by rw [HE.out, HB.out]; rfl, B2⟩
  · have HE := Lib.hid (show rsE r l = 0 by unfold rsE; rw [if_pos HZ.out, if_neg hs])
    have HB := Lib.hid (show rsN r l = r.c - stA r l l.length by unfold rsN; rw [if_pos HE.out])
    generalize stA r l l.length = σ at *
    have hwr : IntKind.i64.wrap (r.c - σ) = r.c - σ := fits_wrap (by omega)
    clear h1 hv hg
    go_enter Tryd.func38, Tryd.ntmps38
    go_wp2_with fail
    have x0 := Blk.new w 23 #[.int .i64 r.s, .int .i64 r.g, .int .i64 r.c]
    have B0 := bl_alloc (below_refl w) (.cells #[.int .i64 r.s, .int .i64 r.g, .int .i64 r.c] 23)
    generalize w.alloc (.cells #[.int .i64 r.s, .int .i64 r.g, .int .i64 r.c] 23) = W0 at *
    refine (H1.out _ B0).mono ?_
    rintro e w1 ⟨rfl, hb1⟩
    have B1 := below_tr B0 hb1
    have x1 := x0.below hb1 x0.lt
    have q0 := x1.cell 0
    have q1 := x1.cell 1
    have q2 := x1.cell 2
    simp only [List.getElem?_toArray, List.getElem?_cons_zero, List.getElem?_cons_succ] at q0 q1 q2
    clear hb1 x0 B0 H1
    go_wp2_with fail
    refine (H2.out _ B1).mono ?_
    rintro e w2 ⟨v, rfl, hv2, hb2⟩
    obtain ⟨A2, c2, rfl, hr2⟩ := own_bools hv2
    have B2 := below_tr B1 hb2
    have x2 := x1.below hb2 x1.lt
    clear q0 q1 q2 hb2 hv2 B1 x1
    have p0 := x2.cell 0
    have p1 := x2.cell 1
    have p2 := x2.cell 2
    simp only [List.getElem?_toArray, List.getElem?_cons_zero, List.getElem?_cons_succ] at p0 p1 p2
    go_wp2
    go_ret2
    exact ⟨by rw [HE.out, HB.out]; rfl, B2⟩
end Go.Proofs.YtkigdjfagcnejaaDoor
