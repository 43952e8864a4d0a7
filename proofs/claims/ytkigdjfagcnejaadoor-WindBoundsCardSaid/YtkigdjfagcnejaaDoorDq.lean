/- Wind cards: Longest of the program, walked. -/
import Derived.Test.YtkigdjfagcnejaaDoorDp
set_option linter.unusedSimpArgs false
set_option linter.unusedVariables false
namespace Go.Proofs.YtkigdjfagcnejaaDoor
open Go.RowKit

set_option maxHeartbeats 4000000 in
set_option maxRecDepth 20000 in
theorem p_Longest (A : Option Addr) (r : Ru) (l : List Int) (c : Nat) (w : World) (hl : l.length ≤ 100000) (hR : Rd zC 1 w A l) :
    Calls Tryd.prog 36 #[ruV r, .slice A l.length c] w fun e w' => e = .returned (.tuple #[.agg #[.int .i64 ((lgB r l).1 : Nat), .int .i64 ((lgB r l).2 : Nat)], .int .i64 (lgE r l)]) ∧ Below w.heap.size w w' := by
  have H1 := Lib.hid (fun W (h : Below w.heap.size w W) => p_asked A r l c W hl (hR.on h))
  go_enter Tryd.func36, Tryd.ntmps36
  go_wp2_with fail
  have x0 := (Blk.new w 23 #[.int .i64 r.s, .int .i64 r.g, .int .i64 r.c]).alloc (.cells #[.int .i64 0, .int .i64 0] 31)
  have y0 := Blk.new (w.alloc (.cells #[.int .i64 r.s, .int .i64 r.g, .int .i64 r.c] 23)) 31 #[.int .i64 0, .int .i64 0]
  rw [World.size_alloc] at y0
  have B0 := bl_alloc (bl_alloc (below_refl w) (.cells #[.int .i64 r.s, .int .i64 r.g, .int .i64 r.c] 23)) (.cells #[.int .i64 0, .int .i64 0] 31)
  generalize (w.alloc (.cells #[.int .i64 r.s, .int .i64 r.g, .int .i64 r.c] 23)).alloc (.cells #[.int .i64 0, .int .i64 0] 31) = W0 at *
  refine (H1.out _ B0).mono ?_
  rintro e w1 ⟨rfl, hb1⟩
  have B1 := below_tr B0 hb1
  have x1 := x0.below hb1 x0.lt
  have y1 := y0.below hb1 y0.lt
  clear hb1 x0 y0 B0 H1
  by_cases h1 : aE r l = 0
  rotate_left
  · have HE := Lib.hid (show lgE r l = 1 by unfold lgE; rw [if_neg h1])
    have HB := Lib.hid (show lgB r l = (0, 0) by unfold lgB; rw [HE.out]; rfl)
    rw [aE_one h1]
    have p0 := y1.cell 0
    have p1 := y1.cell 1
    have f0 := y1.frozen 0
    have f1 := y1.frozen 1
    simp only [List.getElem?_toArray, List.getElem?_cons_zero, List.getElem?_cons_succ] at p0 p1
    go_wp2
    refine bodyPost_ret (res_ct rfl rfl (load_spn ((y1.set_ 0 _).set_ 1 _))) rfl ⟨by rw [HE.out, HB.out]; rfl, ?_⟩
    exact (B1.setCell (p := ⟨w.heap.size + 1, 0, none⟩) (Nat.le_succ _) _).setCell (p := ⟨w.heap.size + 1, 1, none⟩) (Nat.le_succ _) _
  obtain ⟨hv, hg⟩ := a_z h1
  have HEE := Lib.hid (show lgE r l = if lgL r l = [] then 8 else 0 by unfold lgE; rw [if_pos h1])
  have HBB := Lib.hid (show lgB r l = if lgE r l = 0 then lgK (lgL r l) (0, 0) (lgL r l).length else (0, 0) from rfl)
  have HLL := Lib.hid (show lgL r l = spS (gA r l) l.length from rfl)
  have H2 := Lib.hid (p_gone A r l c w1 hv hg (hR.on B1))
  have H3 := Lib.hid (fun W D d q (hD : Rd bC 1 W D (goL r l)) (k : Blk W q 67 #[.slice D (goL r l).length d]) => p_spans l.length (gA r l) 72 #[.pointer (some ⟨q, 0, none⟩)] W hl (enters_of Tryd.func72 (by kernel_rfl) rfl) (fun V t hV ht => p_Longest1 D r l d q t V ht (hD.on hV) (k.below hV k.lt).lt ((k.below hV k.lt).cell 0)))
  have HSB := Lib.hid (spS_bd (gA r l) l.length)
  have HSL := Lib.hid (spS_len (gA r l) l.length)
  rw [h1]
  clear h1 hv hg
  have q0 := x1.cell 0
  have q1 := x1.cell 1
  have q2 := x1.cell 2
  simp only [List.getElem?_toArray, List.getElem?_cons_zero, List.getElem?_cons_succ] at q0 q1 q2
  go_wp2_with fail
  refine H2.out.mono ?_
  rintro e w2 ⟨v, rfl, hv2, hb2⟩
  obtain ⟨A2, c2, rfl, hr2⟩ := own_bools hv2
  have B2 := below_tr B1 hb2
  have y2 := y1.below hb2 y1.lt
  clear q0 q1 q2 hb2 hv2 B1 x1 y1 H2
  go_wp2_with fail
  have x3 := (Blk.new w2 67 #[.slice A2 (goL r l).length c2]).alloc (.cells #[.int .i64 0, .int .i64 0] 31)
  have z3 := Blk.new (w2.alloc (.cells #[.slice A2 (goL r l).length c2] 67)) 31 #[.int .i64 0, .int .i64 0]
  rw [World.size_alloc] at z3
  have y3 := (y2.alloc (.cells #[.slice A2 (goL r l).length c2] 67)).alloc (.cells #[.int .i64 0, .int .i64 0] 31)
  have B3 := bl_alloc (bl_alloc B2 (.cells #[.slice A2 (goL r l).length c2] 67)) (.cells #[.int .i64 0, .int .i64 0] 31)
  have r3 := (hr2.on (below_alloc w2 (.cells #[.slice A2 (goL r l).length c2] 67))).on (below_alloc _ (.cells #[.int .i64 0, .int .i64 0] 31))
  have hD : w.heap.size + 1 < w2.heap.size := y2.lt
  generalize (w2.alloc (.cells #[.slice A2 (goL r l).length c2] 67)).alloc (.cells #[.int .i64 0, .int .i64 0] 31) = W3 at *
  refine (H3.out W3 A2 c2 _ r3 x3).mono ?_
  rintro e w4 ⟨v, rfl, hv4, hb4⟩
  obtain ⟨A4, c4, rfl, hr4⟩ := own_rd pC_len hv4
  have B4 := below_tr B3 hb4
  have y4 := y3.below hb4 y3.lt
  have z4 := z3.below hb4 z3.lt
  have HAD := Lib.hid (fun b off (e : A4 = some ⟨b, off, none⟩) => show b ≠ w2.heap.size + 1 by
    subst e
    have h1 := (own_ge hv4 b rfl).1
    have h2 := z3.lt
    omega)
  rw [← HLL.out] at hr4 ⊢
  rw [← HLL.out] at HSB HSL
  clear hb4 hv4 B3 y3 z3 x3 r3 y2 hr2 B2 H3
  generalize lgL r l = S at *
  have hS : S.length ≤ 100000 := Nat.le_trans HSL.out hl
  have HKB := Lib.hid (fun k (h : k ≤ S.length) => lgK_bd HSB.out k h)
  have hDC : w2.heap.size + 1 ≠ w.heap.size + 1 := by omega
  have hDB : w.heap.size ≤ w2.heap.size + 1 := by omega
  generalize w2.heap.size + 1 = D at *
  go_wp2_with fail
  go_loopw [27] (fun i wr => ∃ k : Nat, k ≤ S.length ∧ i = .int .i64 k ∧ Below w.heap.size w wr ∧ Blk wr (w.heap.size + 1) 31 #[.int .i64 0, .int .i64 0] ∧ Blk wr D 31 #[.int .i64 ((lgK S (0, 0) k).1 : Nat), .int .i64 ((lgK S (0, 0) k).2 : Nat)] ∧ Rd pC 2 wr A4 S) (fun i _ => S.length - (intOf i).toNat)
  case atStart => exact ⟨0, by omega, rfl, B4, y4, z4, hr4⟩
  case round =>
    clear B4 y4 z4 hr4
    obtain ⟨k, hk, rfl, hbw, yr, zr, rr⟩ := hrel
    have k0 : (0 : Int) ≤ (k : Int) := Int.natCast_nonneg _
    obtain ⟨b1, b2, _⟩ := HKB.out k hk
    by_cases hlt : k < S.length
    · have k1 : (k : Int) < (S.length : Int) := by omega
      obtain ⟨f, t, b, off, hx, rfl, hb, d0, d1⟩ := rdP rr hlt
      have hbD := HAD.out b off rfl
      have hft := HSB.out (f, t) (List.mem_of_getElem? hx)
      have hf1 : f < t := hft.1
      have hf2 : t ≤ l.length := hft.2
      have HY := Lib.hid (fun h => lgK_yes (b := (0, 0)) hx h)
      have HN := Lib.hid (fun h => lgK_no (b := (0, 0)) hx h)
      have hw1 : IntKind.i64.wrap ((t : Int) - (f : Int)) = (t : Int) - (f : Int) := fits_wrap (by omega)
      have hw2 : IntKind.i64.wrap (((lgK S (0, 0) k).2 : Int) - ((lgK S (0, 0) k).1 : Int)) = ((lgK S (0, 0) k).2 : Int) - ((lgK S (0, 0) k).1 : Int) := fits_wrap (by omega)
      have xn := Blk.new wr 31 #[.int .i64 (f : Nat), .int .i64 (t : Nat)]
      have ya := yr.alloc (.cells #[.int .i64 (f : Nat), .int .i64 (t : Nat)] 31)
      have za := zr.alloc (.cells #[.int .i64 (f : Nat), .int .i64 (t : Nat)] 31)
      have Ba := bl_alloc hbw (.cells #[.int .i64 (f : Nat), .int .i64 (t : Nat)] 31)
      have ra := rr.on (below_alloc wr (.cells #[.int .i64 (f : Nat), .int .i64 (t : Nat)] 31))
      clear hx b1 b2 hft
      go_upto_region 9 with fail
      generalize wr.heap.size = E at *
      generalize wr.alloc (.cells #[.int .i64 (f : Nat), .int .i64 (t : Nat)] 31) = Wa at *
      have e0 := xn.cell 0
      have e1 := xn.cell 1
      have g0 := za.cell 0
      have g1 := za.cell 1
      have f0 := za.frozen 0
      have f1 := za.frozen 1
      simp only [List.getElem?_toArray, List.getElem?_cons_zero, List.getElem?_cons_succ] at e0 e1 g0 g1
      by_cases hgt : ((lgK S (0, 0) k).2 : Int) - (lgK S (0, 0) k).1 < (t : Int) - f
      · have HS := Lib.hid (HY.out hgt)
        have zb := (za.set_ 0 (.int .i64 (f : Nat))).set_ 1 (.int .i64 (t : Nat))
        have yb := (ya.far (p := ⟨D, 0, none⟩) (Ne.symm hDC) (.int .i64 (f : Nat))).far (p := ⟨D, 1, none⟩) (Ne.symm hDC) (.int .i64 (t : Nat))
        have Bb := (Ba.setCell (p := ⟨D, 0, none⟩) hDB (.int .i64 (f : Nat))).setCell (p := ⟨D, 1, none⟩) hDB (.int .i64 (t : Nat))
        have HRB := Lib.hid (show Rd pC 2 ((Wa.setCell ⟨D, 0, none⟩ (.int .i64 (f : Nat))).setCell ⟨D, 1, none⟩ (.int .i64 (t : Nat))) (some ⟨b, off, none⟩) S from fun hne => by
          obtain ⟨b', off', e, hb', hc⟩ := ra hne
          cases e
          refine ⟨b, off, rfl, by simpa using hb', fun k x hx j v hv => ?_⟩
          rw [World.cell?_setCell_far _ _ _ _ (show D ≠ b from Ne.symm hbD), World.cell?_setCell_far _ _ _ _ (show D ≠ b from Ne.symm hbD)]
          exact hc k x hx j v hv)
        clear ra
        go_wp2
        go_roundw
        case rel => exact ⟨k + 1, by omega, by go_num, Bb, yb, by rw [HS.out]; simpa using zb, HRB.out⟩
        case measure => simp [intOf]; omega
      · have HS := Lib.hid (HN.out hgt)
        have hgt2 : (t : Int) - f ≤ ((lgK S (0, 0) k).2 : Int) - (lgK S (0, 0) k).1 := by omega
        go_wp2
        go_roundw
        case rel => exact ⟨k + 1, by omega, by go_num, Ba, ya, by rw [HS.out]; exact za, ra⟩
        case measure => simp [intOf]; omega
    · obtain rfl : k = S.length := by omega
      have e0 := zr.cell 0
      have e1 := zr.cell 1
      have g0 := yr.cell 0
      have g1 := yr.cell 1
      have f0 := yr.frozen 0
      have f1 := yr.frozen 1
      simp only [List.getElem?_toArray, List.getElem?_cons_zero, List.getElem?_cons_succ] at e0 e1 g0 g1
      have HKB3 := Lib.hid (HKB.out S.length hk).2.2
      by_cases hSe : S = []
      · have HE := Lib.hid (show lgE r l = 8 by rw [HEE.out, if_pos hSe])
        have HB := Lib.hid (show lgB r l = (0, 0) by rw [HBB.out, HE.out]; rfl)
        subst hSe
        have e2 : wr.cell? ⟨D, 0, none⟩ = some (.int .i64 0) := e0
        have e3 : wr.cell? ⟨D, 1, none⟩ = some (.int .i64 0) := e1
        clear e0 e1
        go_wp2
        refine bodyPost_ret (res_ct rfl rfl (load_spn ((yr.set_ 0 _).set_ 1 _))) rfl ⟨by rw [HE.out, HB.out]; rfl, ?_⟩
        exact (hbw.setCell (p := ⟨w.heap.size + 1, 0, none⟩) (Nat.le_succ _) _).setCell (p := ⟨w.heap.size + 1, 1, none⟩) (Nat.le_succ _) _
      · have hpos : 0 < S.length := List.length_pos_iff.2 hSe
        have HE := Lib.hid (show lgE r l = 0 by rw [HEE.out, if_neg hSe])
        have HB := Lib.hid (show lgB r l = lgK S (0, 0) S.length by rw [HBB.out, if_pos HE.out])
        have h3 := HKB3.out hpos
        have h4 : ¬ (((lgK S (0, 0) S.length).2 : Nat) : Int) = 0 := by omega
        have h5 : ¬ (lgK S (0, 0) S.length).2 = 0 := by omega
        generalize lgK S (0, 0) S.length = K at *
        go_wp2
        refine bodyPost_ret (res_ct rfl rfl (load_spn ((yr.set_ 0 _).set_ 1 _))) rfl ⟨by rw [HE.out, HB.out]; rfl, ?_⟩
        exact (hbw.setCell (p := ⟨w.heap.size + 1, 0, none⟩) (Nat.le_succ _) _).setCell (p := ⟨w.heap.size + 1, 1, none⟩) (Nat.le_succ _) _
end Go.Proofs.YtkigdjfagcnejaaDoor
