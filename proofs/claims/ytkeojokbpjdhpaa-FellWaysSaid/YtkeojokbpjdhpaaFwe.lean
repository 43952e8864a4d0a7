/- Fell: FellWays. -/
import Derived.Test.YtkeojokbpjdhpaaFwd
import Derived.Test.YtkeojokbpjdhpaaFm1
set_option linter.unusedSimpArgs false
set_option linter.unusedVariables false
namespace Go.Proofs.Ytkeojokbpjdhpaa
open Go.RowKit

theorem Bd.zero : Bd 20000 (⟨0, 0⟩ : Sp) := by unfold Bd; simp
theorem drZ_bd (l : List Pr) (s : Sp) : Bd 20000 (drZ l s) := by
  unfold drZ
  by_cases h : drE l s = 0
  · obtain ⟨a1, a2, a3, a4⟩ := drE_zero h
    rw [if_pos h]
    exact dirP_bd (vP_bd a1) (vP_nodup a1) a4 a3 (isS_bd a2) (dirZ_dir (vP_bd a1) (vP_nodup a1) a4 a3)
  · rw [if_neg h]; exact Bd.zero
theorem drZ_away {l : List Pr} {s : Sp} (h : drE l s = 0) {x : Pr} (hx : x ∈ l) : 0 < vdot (drZ l s) ⟨s.x - x.a.x, s.y - x.a.y⟩ ∧ Bd 10000 s ∧ Bd 10000 x.a := by
  obtain ⟨a1, a2, a3, a4⟩ := drE_zero h
  have hm : x.a ∈ spL l := List.mem_map_of_mem hx
  have h1 : 0 < vdot (drZ l s) (vec s x.a) := by
    unfold drZ; rw [if_pos h]
    exact dirP_away (dirZ_dir (vP_bd a1) (vP_nodup a1) a4 a3) hm
  exact ⟨h1, isS_bd a2, vP_bd a1 _ hm⟩
set_option maxHeartbeats 4000000 in
set_option maxRecDepth 20000 in
theorem l_FellWays (A : Option Addr) (l : List Pr) (c : Nat) (s t : Sp) (w : World) (hl : l.length ≤ maxLen) (hR : Rd Pr.cs 3 w A l) :
    Calls Try.prog 5 #[.slice A l.length c, spV s, spV t] w fun e w' => e = .returned (.bool true) ∧ Below w.heap.size w w' := by
  obtain ⟨W1, hW1⟩ : ∃ W1, W1 = (w.alloc (.cells (spA s) 24)).alloc (.cells (spA t) 24) := ⟨_, rfl⟩
  have x0 : Blk W1 w.heap.size 24 (spA s) := by rw [hW1]; exact (Blk.new w 24 (spA s)).alloc (.cells (spA t) 24)
  have y0 : Blk W1 (w.heap.size + 1) 24 (spA t) := by
    have := Blk.new (w.alloc (.cells (spA s) 24)) 24 (spA t)
    rw [World.size_alloc] at this
    rw [hW1]; exact this
  have B0 : Below w.heap.size w W1 := by rw [hW1]; exact bl_alloc (bl_alloc (below_refl w) (.cells (spA s) 24)) (.cells (spA t) 24)
  have HAW := Lib.hid l_awake
  have HM := Lib.hid (fun W => p_many A l.length c W hl)
  unfold maxLen at hl
  cases hm : manyB l.length
  rotate_left
  · rw [hm] at HM
    go_enter Try.func5, Try.ntmps5
    go_wp2_with fail
    rw [show ((w.alloc (.cells #[.int .i64 s.x, .int .i64 s.y] 24)).alloc (.cells #[.int .i64 t.x, .int .i64 t.y] 24)) = W1 from hW1.symm]
    clear hW1
    refine (HAW.out _).mono ?_
    rintro e w1 ⟨rfl, hb1⟩
    go_wp2_with (go_at_call 9; ((with_reducible refine (HM.out _).mono ?_); rintro e w' ⟨rfl, rfl⟩))
    go_ret
    exact ⟨rfl, below_tr B0 hb1⟩
  rw [hm] at HM
  have h30 : l.length ≤ 30 := by unfold manyB at hm; simp at hm; omega
  clear hm
  have HD1 := Lib.hid (fun (W : World) (hb : Below w.heap.size w W) => p_DirectionZ A l c s W (by omega) vP_len (hR.on hb))
  have HD2 := Lib.hid (fun (W : World) (hb : Below w.heap.size w W) => r_Direction A l c s W (by omega) (hR.on hb))
  have HT1 := Lib.hid (fun (W : World) (hb : Below w.heap.size w W) => p_Towards A l c s t W (by omega) vP_len (hR.on hb))
  have HT2 := Lib.hid (fun (W : World) (hb : Below w.heap.size w W) => r_Towards A l c s t W (by omega) (hR.on hb))
  have HDB := Lib.hid (drZ_bd l s)
  have HAY := Lib.hid (fun (h : drE l s = 0) x (hx : x ∈ l) => drZ_away h hx)
  generalize drZ l s = d at *
  generalize drE l s = E at *
  generalize twD l s t = T at *
  generalize twE l s t = F at *
  go_enter Try.func5, Try.ntmps5
  go_wp2_with fail
  rw [show ((w.alloc (.cells #[.int .i64 s.x, .int .i64 s.y] 24)).alloc (.cells #[.int .i64 t.x, .int .i64 t.y] 24)) = W1 from hW1.symm]
  clear hW1
  refine (HAW.out _).mono ?_
  rintro e w1 ⟨rfl, hb1⟩
  have B1 := below_tr B0 hb1
  have x1 := x0.below hb1 x0.lt
  have y1 := y0.below hb1 y0.lt
  have p0 := x1.cell 0
  have p1 := x1.cell 1
  simp only [List.getElem?_toArray, List.getElem?_cons_zero, List.getElem?_cons_succ] at p0 p1
  have lx1 := x1.lt
  go_wp2_with (go_at_call 9; ((with_reducible refine (HM.out _).mono ?_); rintro e w' ⟨rfl, rfl⟩))
  clear x0 y0 B0 hb1 HAW HM
  refine (HD1.out _ B1).mono ?_
  rintro e w2 ⟨rfl, hb2⟩
  have B2 := bl_alloc (below_tr B1 hb2) (.cells (spA d) 24)
  have x2 := (x1.below hb2 x1.lt).alloc (.cells (spA d) 24)
  have y2 := (y1.below hb2 y1.lt).alloc (.cells (spA d) 24)
  have z2 := Blk.new w2 24 (spA d)
  have p0 := x2.cell 0
  have p1 := x2.cell 1
  simp only [List.getElem?_toArray, List.getElem?_cons_zero, List.getElem?_cons_succ] at p0 p1
  have lx := x2.lt
  clear x1 y1 B1 hb2 HD1
  go_wp2_with fail
  generalize w2.alloc (.cells (spA d) 24) = W2 at *
  generalize w2.heap.size = gd at *
  refine (HD2.out _ B2).mono ?_
  rintro e w3 ⟨rfl, hb3⟩
  have B3 := bl_alloc (below_tr B2 hb3) (.cells (spA d) 24)
  have x3 := (x2.below hb3 x2.lt).alloc (.cells (spA d) 24)
  have y3 := (y2.below hb3 y2.lt).alloc (.cells (spA d) 24)
  have z3 := (z2.below hb3 z2.lt).alloc (.cells (spA d) 24)
  have v3 := Blk.new w3 24 (spA d)
  have x9 := x2.below hb3 x2.lt
  have y9 := y2.below hb3 y2.lt
  have z9 := z2.below hb3 z2.lt
  have p0 := x9.cell 0
  have p1 := x9.cell 1
  have q0 := y9.cell 0
  have q1 := y9.cell 1
  have r0 := z9.cell 0
  have r1 := z9.cell 1
  simp only [List.getElem?_toArray, List.getElem?_cons_zero, List.getElem?_cons_succ] at p0 p1 q0 q1 r0 r1
  have lx3 := x9.lt
  have ly3 := y9.lt
  have lz3 := z9.lt
  clear x2 y2 z2 B2 hb3 HD2 x9 y9 z9
  go_wp2_with fail
  generalize w3.alloc (.cells (spA d) 24) = W3 at *
  generalize w3.heap.size = gf at *
  refine (HT1.out _ B3).mono ?_
  rintro e w4 ⟨rfl, hb4⟩
  have B4 := below_tr B3 hb4
  have x4 := x3.below hb4 x3.lt
  have y4 := y3.below hb4 y3.lt
  have z4 := z3.below hb4 z3.lt
  have p0 := x4.cell 0
  have p1 := x4.cell 1
  have q0 := y4.cell 0
  have q1 := y4.cell 1
  simp only [List.getElem?_toArray, List.getElem?_cons_zero, List.getElem?_cons_succ] at p0 p1 q0 q1
  have lx4 := x4.lt
  have ly4 := y4.lt
  clear x3 y3 z3 v3 B3 hb4 HT1
  go_wp2_with fail
  refine (HT2.out _ B4).mono ?_
  rintro e w5 ⟨rfl, hb5⟩
  have B5 := below_tr B4 hb5
  have x5 := x4.below hb5 x4.lt
  have z5 := z4.below hb5 z4.lt
  clear x4 y4 z4 B4 hb5 HT2
  go_wp2_with fail
  go_loopw [15] (fun i wr => ∃ k : Nat, k ≤ l.length ∧ i = .int .i64 k ∧ Below w.heap.size w wr ∧ Blk wr w.heap.size 24 (spA s) ∧ Blk wr gd 24 (spA d)) (fun i _ => l.length - (intOf i).toNat)
  case atStart => exact ⟨0, by omega, rfl, B5, x5, z5⟩
  case round =>
    clear B5 x5 z5
    obtain ⟨k, hk, rfl, hbw, xb, zb⟩ := hrel
    have k0 : (0 : Int) ≤ (k : Int) := Int.natCast_nonneg _
    by_cases hlt : k < l.length
    · have k1 : (k : Int) < (l.length : Int) := by omega
      by_cases hE : E = 0
      · subst hE
        obtain ⟨x, b, off, hx, rfl, hb, c0, c1, c2⟩ := rdP (hR.on hbw) hlt
        obtain ⟨hv, bs, bx⟩ := HAY.out rfl x (List.mem_of_getElem? hx)
        have HD := Lib.hid (fun W => r_Dot d ⟨s.x - x.a.x, s.y - x.a.y⟩ W (HDB.out.mono (by omega)) (by unfold Bd at *; dsimp only; omega))
        have hw1 : IntKind.i64.wrap (s.x - x.a.x) = s.x - x.a.x := fits_wrap (by unfold Bd at *; omega)
        have hw2 : IntKind.i64.wrap (s.y - x.a.y) = s.y - x.a.y := fits_wrap (by unfold Bd at *; omega)
        generalize vdot d ⟨s.x - x.a.x, s.y - x.a.y⟩ = V at *
        have hd : decide (V ≤ 0) = false := decide_eq_false (by omega)
        have p0 := xb.cell 0
        have p1 := xb.cell 1
        have q0 := zb.cell 0
        have q1 := zb.cell 1
        simp only [List.getElem?_toArray, List.getElem?_cons_zero, List.getElem?_cons_succ] at p0 p1 q0 q1
        have lx := xb.lt
        have lz := zb.lt
        clear hx HAY
        rename World => wk
        go_wp2_with fail
        go_region_held3 (fun w' => (∀ b o, b < wk.heap.size → w'.cell? ⟨b, o, none⟩ = wk.cell? ⟨b, o, none⟩) ∧ (∀ b o, b < wk.heap.size → w'.frozen? ⟨b, o, none⟩ = wk.frozen? ⟨b, o, none⟩) ∧ Below wk.heap.size wk w') ((first | assumption | (refine kp_of ?_; (repeat' (first | assumption | exact below_refl _ | refine bl_alloc ?_ _ | refine Below.setCell ?_ ?_ _ | refine below_draw ?_ | refine below_drewN ?_ _ | refine below_tr ?_ (by assumption))) <;> (first | omega | (simp; done) | (simp; omega))))) ((first | (go_at_call 21; ((with_reducible refine (HD.out _).mono ?_); rintro e w6 ⟨rfl, hb6⟩; obtain ⟨hc6, hf6⟩ := bcell hb6; have hz6 := hb6.size; (try simp [sz_drew, sz_drewN] at hz6); (try simp only [sz_drew, sz_drewN] at hc6 hf6)))))
        go_wp2
        go_roundw
        case rel => exact ⟨k + 1, by omega, by go_num, below_tr hbw (by (repeat' (first | assumption | exact below_refl _ | refine bl_alloc ?_ _ | refine Below.setCell ?_ ?_ _ | refine below_draw ?_ | refine below_drewN ?_ _ | refine below_tr ?_ (by assumption))) <;> (first | omega | (simp; done) | (simp; omega))), xb.below (by (repeat' (first | assumption | exact below_refl _ | refine bl_alloc ?_ _ | refine Below.setCell ?_ ?_ _ | refine below_draw ?_ | refine below_drewN ?_ _ | refine below_tr ?_ (by assumption))) <;> (first | omega | (simp; done) | (simp; omega))) xb.lt, zb.below (by (repeat' (first | assumption | exact below_refl _ | refine bl_alloc ?_ _ | refine Below.setCell ?_ ?_ _ | refine below_draw ?_ | refine below_drewN ?_ _ | refine below_tr ?_ (by assumption))) <;> (first | omega | (simp; done) | (simp; omega))) zb.lt⟩
        case measure => simp [intOf]; omega
      · have t1 : (E == 0) = false := by simpa using hE
        go_wp2
        go_ret
        exact ⟨rfl, by (repeat' (first | assumption | exact below_refl _ | refine bl_alloc ?_ _ | refine Below.setCell ?_ ?_ _ | refine below_draw ?_ | refine below_drewN ?_ _ | refine below_tr ?_ (by assumption))) <;> (first | omega | (simp; done) | (simp; omega))⟩
    · obtain rfl : k = l.length := by omega
      go_wp2
      go_ret
      exact ⟨rfl, by (repeat' (first | assumption | exact below_refl _ | refine bl_alloc ?_ _ | refine Below.setCell ?_ ?_ _ | refine below_draw ?_ | refine below_drewN ?_ _ | refine below_tr ?_ (by assumption))) <;> (first | omega | (simp; done) | (simp; omega))⟩
end Go.Proofs.Ytkeojokbpjdhpaa
