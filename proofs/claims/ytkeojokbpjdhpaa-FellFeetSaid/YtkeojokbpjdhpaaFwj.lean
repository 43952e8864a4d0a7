/- Fell: FellFeet. -/
import Derived.Test.YtkeojokbpjdhpaaFwi
import Derived.Test.YtkeojokbpjdhpaaFdec
set_option linter.unusedSimpArgs false
set_option linter.unusedVariables false
namespace Go.Proofs.Ytkeojokbpjdhpaa
open Go.RowKit

theorem prC_one1 (x : Pr) : ∀ u ∈ x.cs, u.oneCell' = true := fun u hu => by
  simp only [Pr.cs, List.mem_cons, List.not_mem_nil, or_false] at hu
  rcases hu with rfl | rfl | rfl <;> rfl
theorem own_lenP {base n : Nat} {W : World} {v : Value} {l : List Pr} (h : W.ownsRow base 36 3 v n (fl Pr.cs l)) (e : l.length = n) : W.ownsRow base 36 3 v l.length (fl Pr.cs l) := by subst e; exact h
theorem fl_snocP (l : List Pr) (x : Pr) : fl Pr.cs (l ++ [x]) = fl Pr.cs l ++ Pr.cs x := by simp [fl]
set_option maxHeartbeats 4000000 in
set_option maxRecDepth 20000 in
theorem l_FellFeet (A : Option Addr) (l : List Pr) (c : Nat) (s : Sp) (w : World) (hl : l.length ≤ maxLen) (hR : Rd Pr.cs 3 w A l) :
    Calls Try.prog 4 #[.slice A l.length c, spV s] w fun e w' => e = .returned (.bool true) ∧ Below w.heap.size w w' := by
  have x0 := Blk.new w 24 (spA s)
  have B0 := bl_alloc (below_refl w) (.cells (spA s) 24)
  have HAW := Lib.hid l_awake
  have HM := Lib.hid (fun W => p_many A l.length c W hl)
  unfold maxLen at hl
  cases hm : manyB l.length
  rotate_left
  · rw [hm] at HM
    go_enter Try.func4, Try.ntmps4
    go_wp2_with fail
    refine (HAW.out _).mono ?_
    rintro e w1 ⟨rfl, hb1⟩
    go_wp2_with (go_at_call 9; ((with_reducible refine (HM.out _).mono ?_); rintro e w' ⟨rfl, rfl⟩))
    go_ret
    exact ⟨rfl, below_tr B0 hb1⟩
  rw [hm] at HM
  have h30 : l.length ≤ 30 := by unfold manyB at hm; simp at hm; omega
  clear hm
  have HS1 := Lib.hid (fun (W : World) (hb : Below w.heap.size w W) => p_Stands A l c s W (by omega) vP_len (hR.on hb))
  have HS2 := Lib.hid (fun (W : World) (hb : Below w.heap.size w W) => r_Stands A l c s W (by omega) (hR.on hb))
  have HV1 := Lib.hid (fun (W : World) (hb : Below w.heap.size w W) => p_Valid A l c W (by omega) (hR.on hb))
  have HV2 := Lib.hid (fun (W : World) (hb : Below w.heap.size w W) => r_Valid A l c W (by omega) (hR.on hb))
  cases hv : vP l
  · have HH1 := Lib.hid (fun (W : World) (hb : Below w.heap.size w W) => p_HullNo A l c W (by omega) hv (hR.on hb))
    have HH2 := Lib.hid (fun (W : World) (hb : Below w.heap.size w W) => r_HullNo A l c W (by omega) hv (hR.on hb))
    have HSP := Lib.hid (fun W => l_spots none none [] 0 0 W (by simp) (fun h => absurd rfl h) (fun h => absurd rfl h))
    have hE : stE l s = 1 := askE_one hv
    rw [hv] at HV1 HV2
    rw [hE] at HS1 HS2
    clear hv hE hR
    generalize stD l s = D at *
    go_enter Try.func4, Try.ntmps4
    go_wp2_with fail
    refine (HAW.out _).mono ?_
    rintro e w1 ⟨rfl, hb1⟩
    have B1 := below_tr B0 hb1
    have x1 := x0.below hb1 x0.lt
    clear x0 B0 hb1
    go_wp2_with (go_at_call 9; ((with_reducible refine (HM.out _).mono ?_); rintro e w' ⟨rfl, rfl⟩))
    refine (HH1.out _ B1).mono ?_
    rintro e w2 ⟨rfl, hb2⟩
    have B2 := below_tr B1 hb2
    have x2 := x1.below hb2 x1.lt
    clear x1 B1 hb2
    go_wp2_with fail
    refine (HH2.out _ B2).mono ?_
    rintro e w3 ⟨rfl, hb3⟩
    have B3 := below_tr B2 hb3
    have x3 := x2.below hb3 x2.lt
    clear x2 B2 hb3
    go_wp2_with fail
    refine (HV1.out _ B3).mono ?_
    rintro e w4 ⟨rfl, hb4⟩
    have B4 := below_tr B3 hb4
    have x4 := x3.below hb4 x3.lt
    clear x3 B3 hb4
    go_wp2_with fail
    refine (HV2.out _ B4).mono ?_
    rintro e w5 ⟨rfl, hb5⟩
    have B5 := below_tr B4 hb5
    have x5 := x4.below hb5 x4.lt
    clear x4 B4 hb5
    go_wp2_with fail
    refine (HSP.out _).mono ?_
    rintro e w6 ⟨rfl, hb6⟩
    have B6 := below_tr B5 hb6
    have x6 := x5.below hb6 x5.lt
    have p0 := x6.cell 0
    have p1 := x6.cell 1
    simp only [List.getElem?_toArray, List.getElem?_cons_zero, List.getElem?_cons_succ] at p0 p1
    have lx := x6.lt
    clear x5 B5 hb6
    go_wp2_with fail
    refine (HS1.out _ B6).mono ?_
    rintro e w7 ⟨rfl, hb7⟩
    have B7 := below_tr B6 hb7
    have x7 := x6.below hb7 x6.lt
    have p0 := x7.cell 0
    have p1 := x7.cell 1
    simp only [List.getElem?_toArray, List.getElem?_cons_zero, List.getElem?_cons_succ] at p0 p1
    have lx7 := x7.lt
    clear x6 B6 hb7
    go_wp2_with fail
    refine (HS2.out _ B7).mono ?_
    rintro e w8 ⟨rfl, hb8⟩
    have B8 := below_tr B7 hb8
    go_wp2
    go_ret
    exact ⟨rfl, B8⟩
  · have HH1 := Lib.hid (fun (W : World) (hb : Below w.heap.size w W) => p_Hull A l c W hv (hR.on hb))
    have HH2 := Lib.hid (fun (W : World) (hb : Below w.heap.size w W) q (hp : List.Perm q (spL l)) (ha : Asc q) => r_Hull A l q c W hv hp ha (hR.on hb))
    have HCE := Lib.hid (fun (he : stE l s = 0) q (hp : List.Perm q (spL l)) (ha : Asc q) => (show stE ((hul q).map crP) s = 0 ∧ stD ((hul q).map crP) s = stD l s from ⟨cr_stE he hp ha, cr_stD he hp ha⟩))
    have HHL := Lib.hid (fun q (hp : List.Perm q (spL l)) (ha : Asc q) => (show (hul q).length ≤ 24 from by
      have := nodup_len (hul_nodup ha) (hul_sub ha)
      have := hp.length_eq
      rw [spL_len] at this
      have := vP_len hv
      omega))
    rw [hv] at HV1 HV2
    clear hv hR
    generalize stD l s = D at *
    generalize stE l s = E at *
    go_enter Try.func4, Try.ntmps4
    go_wp2_with fail
    refine (HAW.out _).mono ?_
    rintro e w1 ⟨rfl, hb1⟩
    have B1 := below_tr B0 hb1
    have x1 := x0.below hb1 x0.lt
    clear x0 B0 hb1
    go_wp2_with (go_at_call 9; ((with_reducible refine (HM.out _).mono ?_); rintro e w' ⟨rfl, rfl⟩))
    refine (HH1.out _ B1).mono ?_
    rintro e w2 ⟨v2, q, rfl, hp, ha, ho2, hb2⟩
    have B2 := below_tr B1 hb2
    have x2 := x1.below hb2 x1.lt
    have H2 := Lib.hid (HH2.out w2 B2 q hp ha)
    have HC := Lib.hid (fun he => HCE.out he q hp ha)
    have hq24 := HHL.out q hp ha
    clear x1 B1 hb2 HH1 HH2 HCE HHL hp ha
    unfold RHul at H2
    generalize hul q = H at *
    obtain ⟨A2, c2, rfl, hR2⟩ := own_rd Sp.cs_len ho2
    clear ho2
    go_wp2_with fail
    refine H2.out.mono ?_
    rintro e w3 ⟨v3, rfl, ho3, hb3⟩
    obtain ⟨A3, c3, rfl, hR3⟩ := own_rd Sp.cs_len ho3
    have B3 := below_tr B2 hb3
    have x3 := x2.below hb3 x2.lt
    have hR2 := hR2.on hb3
    clear x2 B2 hb3 ho3 H2
    go_wp2_with fail
    refine (HV1.out _ B3).mono ?_
    rintro e w4 ⟨rfl, hb4⟩
    have B4 := below_tr B3 hb4
    have x4 := x3.below hb4 x3.lt
    have hR2 := hR2.on hb4
    have hR3 := hR3.on hb4
    clear x3 B3 hb4
    go_wp2_with fail
    refine (HV2.out _ B4).mono ?_
    rintro e w5 ⟨rfl, hb5⟩
    have B5 := below_tr B4 hb5
    have x5 := x4.below hb5 x4.lt
    have hR2 := hR2.on hb5
    have hR3 := hR3.on hb5
    have HSP := Lib.hid (l_spots A2 A3 H c2 c3 w5 (by omega) hR2 hR3)
    clear x4 B4 hb5
    go_wp2_with fail
    refine HSP.out.mono ?_
    rintro e w6 ⟨rfl, hb6⟩
    have B6 := below_tr B5 hb6
    have x6 := x5.below hb6 x5.lt
    have hR2 := hR2.on hb6
    have p0 := x6.cell 0
    have p1 := x6.cell 1
    simp only [List.getElem?_toArray, List.getElem?_cons_zero, List.getElem?_cons_succ] at p0 p1
    have lx := x6.lt
    clear x5 B5 hb6 hR3 HSP
    go_wp2_with fail
    refine (HS1.out _ B6).mono ?_
    rintro e w7 ⟨rfl, hb7⟩
    have B7 := below_tr B6 hb7
    have x7 := x6.below hb7 x6.lt
    have hR2 := hR2.on hb7
    have p0 := x7.cell 0
    have p1 := x7.cell 1
    simp only [List.getElem?_toArray, List.getElem?_cons_zero, List.getElem?_cons_succ] at p0 p1
    have lx7 := x7.lt
    clear x6 B6 hb7
    go_wp2_with fail
    refine (HS2.out _ B7).mono ?_
    rintro e w8 ⟨rfl, hb8⟩
    have B8 := below_tr B7 hb8
    have x8 := x7.below hb8 x7.lt
    have hR8 := hR2.on hb8
    clear hR2 x7 B7 hb8 p0 p1 lx lx7 HS1 HS2 HV1 HV2 HAW HM
    by_cases hE : E = 0
    · subst hE
      obtain ⟨hC1, hC2⟩ := HC.out rfl
      have HCS := Lib.hid (fun (W : World) (A : Option Addr) (c : Nat) (hR : Rd Pr.cs 3 W A (H.map crP)) => p_Stands A (H.map crP) c s W (by rw [List.length_map]; omega) vP_len hR)
      rw [hC1, hC2] at HCS
      clear hC1 hC2 HC
      obtain ⟨i0, hi, hi1, hi2, hi3⟩ := info_prop
      go_wp2_with fail
      go_loopw [13, 14] (fun v i wr => ∃ k : Nat, k ≤ H.length ∧ i = .int .i64 k ∧ Below w8.heap.size w8 wr ∧ wr.ownsRow w8.heap.size 36 3 v k (fl Pr.cs ((H.take k).map crP))) (fun _ i _ => H.length - (intOf i).toNat)
      case atStart => exact ⟨0, by omega, rfl, below_refl _, World.ownsRow_nil w8 _ _ _⟩
      case round =>
        obtain ⟨k, hk, rfl, hbw, hown⟩ := hrel
        have k0 : (0 : Int) ≤ (k : Int) := Int.natCast_nonneg _
        have hws := hbw.size
        by_cases hlt : k < H.length
        · obtain ⟨ad, cp, rfl⟩ := own_slice hown
          have k1 : (k : Int) < (H.length : Int) := by omega
          obtain ⟨x, b, off, hx, rfl, hb, c0, c1⟩ := rdS (hR8.on hbw) hlt
          have HST := Lib.hid (show (H.take (k + 1)).map crP = (H.take k).map crP ++ [crP x] by rw [List.take_add_one, hx]; simp)
          clear hx
          rename World => wr
          go_wp2_with (at_builtin; refine wpList_append_own _ rfl _ _ 22 rfl w8.heap.size 36 i0 (.agg #[.int .i64 0, .int .i64 0, .bool false]) 3 24 (by kernel_rfl) hi hi1 hi2 hi3 rfl (by omega) _ _ _ rfl (hown.alloc _) ⟨wr.heap.size, 0, none⟩ 1 1 (Pr.cs (crP x)) rfl rfl (cells_new wr (Pr.cs (crP x)) 36) (prC_one1 (crP x)) (by unfold maxLen; omega) (by omega) (by simp; omega) ?_; intro v' w9 hown9 hgrow _)
          go_roundw
          case rel => exact ⟨k + 1, by omega, by go_num, bl_app hbw hown hgrow (Nat.le_refl _) hbw.size, by rw [HST.out, fl_snocP]; exact hown9⟩
          case measure => simp [intOf]; omega
        · obtain rfl : k = H.length := by omega
          rw [List.take_length] at hown
          have hown2 : _ := hown
          have hown2 := own_lenP hown2 (by rw [List.length_map])
          obtain ⟨A9, c9, e, hR9⟩ := own_rd Pr.cs_len hown2
          rw [List.length_map] at e
          subst e
          have HX := Lib.hid (HCS.out _ A9 c9 hR9)
          rw [List.length_map] at HX
          have x9 := x8.below hbw x8.lt
          have p0 := x9.cell 0
          have p1 := x9.cell 1
          simp only [List.getElem?_toArray, List.getElem?_cons_zero, List.getElem?_cons_succ] at p0 p1
          have lx := x9.lt
          go_wp2_with fail
          refine HX.out.mono ?_
          rintro e w9 ⟨rfl, hb9⟩
          go_wp2
          go_ret
          exact ⟨by simp, below_tr (below_tr B8 hbw) hb9⟩
    · have t1 : (E == 0) = false := by simpa using hE
      go_wp2
      go_ret
      exact ⟨rfl, B8⟩
theorem f_FellFeet (A : Option Addr) (l : List Pr) (c : Nat) (s : Sp) (w : World) (hl : l.length ≤ maxLen) (hR : Rd Pr.cs 3 w A l) (_ : ∀ x ∈ l, True) (_ : True) :
    Calls Try.prog 4 #[.slice A l.length c, .agg s.cs.toArray] w fun e w' => e = .returned (.bool true) ∧ Below w.heap.size w w' :=
  l_FellFeet A l c s w hl hR
end Go.Proofs.Ytkeojokbpjdhpaa
