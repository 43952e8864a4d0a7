/- Wind cards: Longest of the reference, walked. -/
import Derived.Test.YtkigdjfagcnejaaDoorDq
set_option linter.unusedSimpArgs false
set_option linter.unusedVariables false
namespace Go.Proofs.YtkigdjfagcnejaaDoor
open Go.RowKit

set_option maxHeartbeats 4000000 in
set_option maxRecDepth 20000 in
theorem r_Longest (A : Option Addr) (r : Ru) (l : List Int) (c : Nat) (w : World) (hl : l.length ≤ 100000) (hR : Rd zC 1 w A l) :
    Calls Tryd.prog 37 #[ruV r, .slice A l.length c] w fun e w' => e = .returned (.tuple #[.agg #[.int .i64 ((lgB r l).1 : Nat), .int .i64 ((lgB r l).2 : Nat)], .int .i64 (lgE r l)]) ∧ Below w.heap.size w w' := by
  have H1 := Lib.hid (fun W (h : Below w.heap.size w W) => r_asked A r l c W hl (hR.on h))
  go_enter Tryd.func37, Tryd.ntmps37
  go_wp2_with fail
  have x0 := (Blk.new w 23 #[.int .i64 r.s, .int .i64 r.g, .int .i64 r.c]).alloc (.cells #[.int .i64 0, .int .i64 0] 31)
  have y0 := Blk.new (w.alloc (.cells #[.int .i64 r.s, .int .i64 r.g, .int .i64 r.c] 23)) 31 #[.int .i64 0, .int .i64 0]
  rw [World.size_alloc] at y0
  have B0 := bl_alloc (bl_alloc (below_refl w) (.cells #[.int .i64 r.s, .int .i64 r.g, .int .i64 r.c] 23)) (.cells #[.int .i64 0, .int .i64 0] 31)
  generalize (w.alloc (.cells #[.int .i64 r.s, .int .i64 r.g, .int .i64 r.c] 23)).alloc (.cells #[.int .i64 0, .int .i64 0] 31) = W0 at *
  refine (H1.out _ B0).mono ?_
  rintro e w1 ⟨rfl, hb1⟩
  have B1 := below_tr B0 hb1
  have x1 := x0.below hb1 x0.lt
  have y1 := y0.below hb1 y0.lt
  clear hb1 x0 y0 B0 H1
  by_cases h1 : aE r l = 0
  rotate_left
  · have HE := Lib.hid (show lgE r l = 1 by unfold lgE; rw [if_neg h1])
    have HB := Lib.hid (show lgB r l = (0, 0) by unfold lgB; rw [HE.out]; rfl)
    rw [aE_one h1]
    have p0 := y1.cell 0
    have p1 := y1.cell 1
    have f0 := y1.frozen 0
    have f1 := y1.frozen 1
    simp only [List.getElem?_toArray, List.getElem?_cons_zero, List.getElem?_cons_succ] at p0 p1
    go_wp2
    refine bodyPost_ret (res_ct rfl rfl (load_spn ((y1.set_ 0 _).set_ 1 _))) rfl ⟨by rw [HE.out, HB.out]; rfl, ?_⟩
    exact (B1.setCell (p := ⟨w.heap.size + 1, 0, none⟩) (Nat.le_succ _) _).setCell (p := ⟨w.heap.size + 1, 1, none⟩) (Nat.le_succ _) _
  obtain ⟨hv, hg⟩ := a_z h1
  have HEE := Lib.hid (show lgE r l = if lgL r l = [] then 8 else 0 by unfold lgE; rw [if_pos h1])
  have HBB := Lib.hid (show lgB r l = if lgE r l = 0 then lgK (lgL r l) (0, 0) (lgL r l).length else (0, 0) from rfl)
  have HLL := Lib.hid (show lgL r l = spS (gA r l) l.length from rfl)
  have H2 := Lib.hid (r_going A r l c w1 hl hv hg (hR.on B1))
  have H3 := Lib.hid (fun D d W (hD : Rd bC 1 W D (goL r l)) => r_spans D (goL r l) d true (gA r l) W (by rw [goL_len]; exact hl) hD (fun k x hx => by rw [goL_at hx]; cases x <;> rfl))
  have HGL := Lib.hid (goL_len r l)
  have HSB := Lib.hid (spS_bd (gA r l) l.length)
  have HSL := Lib.hid (spS_len (gA r l) l.length)
  rw [h1]
  clear h1 hv hg
  have q0 := x1.cell 0
  have q1 := x1.cell 1
  have q2 := x1.cell 2
  simp only [List.getElem?_toArray, List.getElem?_cons_zero, List.getElem?_cons_succ] at q0 q1 q2
  go_wp2_with fail
  refine H2.out.mono ?_
  rintro e w2 ⟨v, rfl, hv2, hb2⟩
  obtain ⟨A2, c2, rfl, hr2⟩ := own_bools hv2
  have B2 := below_tr B1 hb2
  have y2 := y1.below hb2 y1.lt
  clear q0 q1 q2 hb2 hv2 B1 x1 y1 H2
  go_wp2_with fail
  refine (H3.out A2 c2 w2 hr2).mono ?_
  rintro e w4 ⟨v, rfl, hv4, hb4⟩
  rw [HGL.out] at hv4
  obtain ⟨A4, c4, rfl, hr4⟩ := own_rd pC_len hv4
  have B4 := below_tr B2 hb4
  have y4 := y2.below hb4 y2.lt
  rw [← HLL.out] at hr4 ⊢
  rw [← HLL.out] at HSB HSL
  clear hb4 hv4 B2 y2 hr2 H3
  generalize lgL r l = S at *
  have hS : S.length ≤ 100000 := Nat.le_trans HSL.out hl
  have HKB := Lib.hid (fun k (h : k ≤ S.length) => lgK_bd HSB.out k h)
  by_cases hSe : S = []
  · have HE := Lib.hid (show lgE r l = 8 by rw [HEE.out, if_pos hSe])
    have HB := Lib.hid (show lgB r l = (0, 0) by rw [HBB.out, HE.out]; rfl)
    subst hSe
    have g0 := y4.cell 0
    have g1 := y4.cell 1
    have f0 := y4.frozen 0
    have f1 := y4.frozen 1
    simp only [List.getElem?_toArray, List.getElem?_cons_zero, List.getElem?_cons_succ] at g0 g1
    go_wp2
    refine bodyPost_ret (res_ct rfl rfl (load_spn ((y4.set_ 0 _).set_ 1 _))) rfl ⟨by rw [HE.out, HB.out]; rfl, ?_⟩
    exact (B4.setCell (p := ⟨w.heap.size + 1, 0, none⟩) (Nat.le_succ _) _).setCell (p := ⟨w.heap.size + 1, 1, none⟩) (Nat.le_succ _) _
  have hpos : 0 < S.length := List.length_pos_iff.2 hSe
  have HE := Lib.hid (show lgE r l = 0 by rw [HEE.out, if_neg hSe])
  have HB := Lib.hid (show lgB r l = lgK S (0, 0) S.length by rw [HBB.out, if_pos HE.out])
  obtain ⟨f9, t9, b9, o9, hx9, rfl, hb9, d90, d91⟩ := rdP hr4 hpos
  have hft9 : f9 < t9 ∧ t9 ≤ l.length := HSB.out (f9, t9) (List.mem_of_getElem? hx9)
  have HFR := Lib.hid (fun k (h : 0 < k) (h2 : k ≤ S.length) => lgK_from hx9 hft9.1 k h h2)
  have hS0 : ¬ S.length = 0 := by omega
  have hS1 : (0 : Int) < (S.length : Int) := by omega
  have hS2 : ¬ (S.length : Int) = 0 := by omega
  have hz9 : ((S.length : Int) == 0) = false := by simp; omega
  rw [Nat.zero_mul, Nat.add_zero] at d90 d91
  have HBD0 := Lib.hid (show ∀ k, k ≤ S.length → ((lgK S (f9, t9) k).1 ≤ (lgK S (f9, t9) k).2 ∧ (lgK S (f9, t9) k).2 ≤ l.length) from fun k h => by
    rcases Nat.eq_zero_or_pos k with e | e
    · subst e
      exact ⟨by show f9 ≤ t9; omega, hft9.2⟩
    · rw [HFR.out k e h]
      exact ⟨(HKB.out k h).1, (HKB.out k h).2.1⟩)
  have zn := Blk.new w4 31 #[.int .i64 (f9 : Nat), .int .i64 (t9 : Nat)]
  have yn := y4.alloc (.cells #[.int .i64 (f9 : Nat), .int .i64 (t9 : Nat)] 31)
  have Bn := bl_alloc B4 (.cells #[.int .i64 (f9 : Nat), .int .i64 (t9 : Nat)] 31)
  have rn := hr4.on (below_alloc w4 (.cells #[.int .i64 (f9 : Nat), .int .i64 (t9 : Nat)] 31))
  have hDC : w4.heap.size ≠ w.heap.size + 1 := by have := y4.lt; omega
  have hDB : w.heap.size ≤ w4.heap.size := B4.size
  have hbD : b9 ≠ w4.heap.size := by omega
  have hSS : Hid (lgK S (f9, t9) 0 = (f9, t9)) := Lib.hid rfl
  go_upto_region 9 with fail
  generalize w4.alloc (.cells #[.int .i64 (f9 : Nat), .int .i64 (t9 : Nat)] 31) = Wn at *
  generalize w4.heap.size = D at *
  clear d90 d91 hx9 hft9 y4 B4 hr4
  go_wp2_with fail
  go_loopw [11] (fun i wr => ∃ k : Nat, k ≤ S.length ∧ i = .int .i64 k ∧ Below w.heap.size w wr ∧ Blk wr (w.heap.size + 1) 31 #[.int .i64 0, .int .i64 0] ∧ Blk wr D 31 #[.int .i64 ((lgK S (f9, t9) k).1 : Nat), .int .i64 ((lgK S (f9, t9) k).2 : Nat)] ∧ Rd pC 2 wr (some ⟨b9, o9, none⟩) S) (fun i _ => S.length - (intOf i).toNat)
  case atStart => exact ⟨0, by omega, rfl, Bn, yn, by rw [hSS.out]; exact zn, rn⟩
  case round =>
    clear Bn yn zn rn
    obtain ⟨k, hk, rfl, hbw, yr, zr, rr⟩ := hrel
    have k0 : (0 : Int) ≤ (k : Int) := Int.natCast_nonneg _
    obtain ⟨b1, b2⟩ := HBD0.out k hk
    have e0 := zr.cell 0
    have e1 := zr.cell 1
    have g0 := yr.cell 0
    have g1 := yr.cell 1
    have f0 := yr.frozen 0
    have f1 := yr.frozen 1
    have h0 := zr.frozen 0
    have h1 := zr.frozen 1
    simp only [List.getElem?_toArray, List.getElem?_cons_zero, List.getElem?_cons_succ] at e0 e1 g0 g1
    by_cases hlt : k < S.length
    · have k1 : (k : Int) < (S.length : Int) := by omega
      obtain ⟨f, t, b, off, hx, e5, hb, d0, d1⟩ := rdP rr hlt
      cases e5
      have hft := HSB.out (f, t) (List.mem_of_getElem? hx)
      have hf1 : f < t := hft.1
      have hf2 : t ≤ l.length := hft.2
      have HY := Lib.hid (fun h => lgK_yes (b := (f9, t9)) hx h)
      have HN := Lib.hid (fun h => lgK_no (b := (f9, t9)) hx h)
      have hw1 : IntKind.i64.wrap ((t : Int) - (f : Int)) = (t : Int) - (f : Int) := fits_wrap (by omega)
      have hw2 : IntKind.i64.wrap (((lgK S (f9, t9) k).2 : Int) - ((lgK S (f9, t9) k).1 : Int)) = ((lgK S (f9, t9) k).2 : Int) - ((lgK S (f9, t9) k).1 : Int) := fits_wrap (by omega)
      clear hx hft
      by_cases hgt : ((lgK S (f9, t9) k).2 : Int) - (lgK S (f9, t9) k).1 < (t : Int) - f
      · have HS := Lib.hid (HY.out hgt)
        go_wp2_with fail
        go_quiet (fail)
        have Bq := below_drewN hbw nq
        have yq := yr.drewN nq
        have zq := zr.drewN nq
        have rq := rr.on (below_drewN (below_refl wr) nq)
        have d2 : (wr.drewN nq).cell? ⟨b9, o9 + k * 2, none⟩ = some (.int .i64 (f : Nat)) := d0
        have d3 : (wr.drewN nq).cell? ⟨b9, o9 + k * 2 + 1, none⟩ = some (.int .i64 (t : Nat)) := d1
        have e2 : (wr.drewN nq).cell? ⟨D, 0, none⟩ = some (.int .i64 ((lgK S (f9, t9) k).1 : Nat)) := e0
        have e3 : (wr.drewN nq).cell? ⟨D, 1, none⟩ = some (.int .i64 ((lgK S (f9, t9) k).2 : Nat)) := e1
        have h2 : (wr.drewN nq).frozen? ⟨D, 0, none⟩ = false := h0
        have h3 : (wr.drewN nq).frozen? ⟨D, 1, none⟩ = false := h1
        generalize wr.drewN nq = Wq at *
        have zb := (zq.set_ 0 (.int .i64 (f : Nat))).set_ 1 (.int .i64 (t : Nat))
        have yb := (yq.far (p := ⟨D, 0, none⟩) (Ne.symm hDC) (.int .i64 (f : Nat))).far (p := ⟨D, 1, none⟩) (Ne.symm hDC) (.int .i64 (t : Nat))
        have Bb := (Bq.setCell (p := ⟨D, 0, none⟩) hDB (.int .i64 (f : Nat))).setCell (p := ⟨D, 1, none⟩) hDB (.int .i64 (t : Nat))
        have HRB := Lib.hid (show Rd pC 2 ((Wq.setCell ⟨D, 0, none⟩ (.int .i64 (f : Nat))).setCell ⟨D, 1, none⟩ (.int .i64 (t : Nat))) (some ⟨b9, o9, none⟩) S from fun hne => by
          obtain ⟨b', off', e, hb', hc⟩ := rq hne
          cases e
          refine ⟨b9, o9, rfl, by simpa using hb', fun k x hx j v hv => ?_⟩
          rw [World.cell?_setCell_far _ _ _ _ (show D ≠ b9 from Ne.symm hbD), World.cell?_setCell_far _ _ _ _ (show D ≠ b9 from Ne.symm hbD)]
          exact hc k x hx j v hv)
        clear rq rr
        go_wp2
        go_roundw
        case rel => exact ⟨k + 1, by omega, by go_num, Bb, yb, by rw [HS.out]; simpa using zb, HRB.out⟩
        case measure => simp [intOf]; omega
      · have HS := Lib.hid (HN.out hgt)
        have hgt2 : (t : Int) - f ≤ ((lgK S (f9, t9) k).2 : Int) - (lgK S (f9, t9) k).1 := by omega
        go_wp2_with fail
        go_quiet (fail)
        go_wp2
        go_roundw
        case rel => exact ⟨k + 1, by omega, by go_num, below_drewN hbw _, yr.drewN _, by rw [HS.out]; exact zr.drewN _, rr.on (below_drewN (below_refl wr) _)⟩
        case measure => simp [intOf]; omega
    · obtain rfl : k = S.length := by omega
      have HKK := Lib.hid (HFR.out S.length hpos (Nat.le_refl _))
      go_wp2
      refine bodyPost_ret (res_ct rfl rfl (load_spn ((yr.set_ 0 _).set_ 1 _))) rfl ⟨by rw [HE.out, HB.out, ← HKK.out]; rfl, ?_⟩
      exact (hbw.setCell (p := ⟨w.heap.size + 1, 0, none⟩) (Nat.le_succ _) _).setCell (p := ⟨w.heap.size + 1, 1, none⟩) (Nat.le_succ _) _
end Go.Proofs.YtkigdjfagcnejaaDoor
