/- Fell: Needed of the reference; FellNeeds. -/
import Derived.Test.YtkeojokbpjdhpaaDoorFhc
import Derived.Test.YtkeojokbpjdhpaaDoorFgz
set_option linter.unusedSimpArgs false
set_option linter.unusedVariables false
namespace Go.Proofs.YtkeojokbpjdhpaaDoor
open Go.RowKit Go.Shelf

theorem rd_oneZ (w : World) (x : Int) : Rd zC 1 (w.alloc (.cells #[.int .i64 x] 3)) (some ⟨w.heap.size, 0, none⟩) [x] := by
  refine row_rd (cur := #[.int .i64 x]) (Blk.new w 3 #[.int .i64 x]) ?_
  intro k y hy r u hu
  have hk : k = 0 := by
    rcases k with _ | k
    · rfl
    · simp at hy
  subst hk
  simp at hy
  subst hy
  simpa [zC] using hu
theorem thM_one {l : List Pr} {i : Nat} (hi : i < l.length) : thM (List.replicate l.length true) [2 * (i : Int)] = some (woM l i) := by
  unfold thM; simp only [List.foldl_cons, List.foldl_nil, Option.bind_some]; exact wo_step hi
set_option maxHeartbeats 4000000 in
set_option maxRecDepth 20000 in
theorem r_Needed (A : Option Addr) (l : List Pr) (c : Nat) (s : Sp) (w : World) (hl : l.length ≤ 100000) (hR : Rd Pr.cs 3 w A l) :
    Calls Tryd.prog 16 #[.slice A l.length c, spV s] w (NedP l s w) := by
  have x0 := Blk.new w 24 (spA s)
  have B0 := bl_alloc (below_refl w) (.cells (spA s) 24)
  have HST := Lib.hid (r_Stands A l c s _ hl (hR.on B0))
  have p0 := x0.cell 0
  have p1 := x0.cell 1
  simp only [List.getElem?_toArray, List.getElem?_cons_zero, List.getElem?_cons_succ] at p0 p1
  have lx := x0.lt
  unfold NedP
  by_cases he : stE l s = 0
  · obtain ⟨hv, hs⟩ := stE_z he
    have hl24 := vP_len hv
    rw [he, stD_ok he] at HST
    cases hh : heldB (spL l) s
    · have hE : ndE l s = 10 := by unfold ndE; rw [if_pos he, hh]; rfl
      have hL : ndL l s = [] := by unfold ndL; rw [hE]; rfl
      rw [hE, hL]
      rw [hh] at HST
      clear he hv hs hh hE hL
      go_enter Tryd.func16, Tryd.ntmps16
      go_wp2_with fail
      refine HST.out.mono ?_
      rintro e w1 ⟨rfl, hb1⟩
      go_wp2
      go_ret2
      exact ⟨_, rfl, ownZ_nil _ _, below_tr B0 hb1⟩
    · have hE : ndE l s = 0 := by unfold ndE; rw [if_pos he, hh]; rfl
      have hL : ndL l s = ndK l s l.length := by unfold ndL; rw [hE]; rfl
      rw [hE, hL]
      rw [hh] at HST
      have HSO := Lib.hid (fun i (hi : i < l.length) (W : World) (g : Nat) (hb : Below w.heap.size w W) (hB : Rd zC 1 W (some ⟨g, 0, none⟩) [2 * (i : Int)]) => (show Calls Tryd.prog 43 #[.slice A l.length c, spV s, .slice (some ⟨g, 0, none⟩) 1 1] W fun e w' => e = .returned (.tuple #[.bool true, .bool (heldB (lfS l (woM l i)) s)]) ∧ Below W.heap.size W w' from (by
        have := r_stood A (some ⟨g, 0, none⟩) l s [2 * (i : Int)] c 1 W hv hs (by simp) (by intro x hx; simp at hx; subst hx; omega) (hR.on hb) hB
        rw [thM_one hi] at this
        exact this)))
      have HNB := Lib.hid (fun i => (show ndB l s i = !heldB (lfS l (woM l i)) s from rfl))
      have HLN := Lib.hid (ndK_len l s)
      obtain ⟨i9, hi, hi1, hi2, hi3⟩ := info_int4
      clear he hv hs hh hE hL hR
      go_enter Tryd.func16, Tryd.ntmps16
      go_wp2_with fail
      refine HST.out.mono ?_
      rintro e w1 ⟨rfl, hb1⟩
      have B1 := below_tr B0 hb1
      have x1 := x0.below hb1 x0.lt
      clear B0 x0 p0 p1 lx hb1 HST
      go_wp2_with fail
      go_loopw [8, 9] (fun v i wr => ∃ k : Nat, k ≤ l.length ∧ i = .int .i64 k ∧ Below w1.heap.size w1 wr ∧ wr.ownsRow w1.heap.size 3 1 v (ndK l s k).length (fl zC (ndK l s k))) (fun _ i _ => l.length - (intOf i).toNat)
      case atStart => exact ⟨0, by omega, rfl, below_refl _, World.ownsRow_nil w1 _ _ _⟩
      case round =>
        obtain ⟨k, hk, rfl, hbw, hown⟩ := hrel
        obtain ⟨ad, cp, rfl⟩ := own_slice hown
        have k0 : (0 : Int) ≤ (k : Int) := Int.natCast_nonneg _
        have hws := hbw.size
        have hln := HLN.out k
        by_cases hlt : k < l.length
        · have k1 : (k : Int) < (l.length : Int) := by omega
          have hw2 : IntKind.i64.wrap (2 * (k : Int)) = 2 * (k : Int) := fits_wrap (by omega)
          have xb := x1.below hbw x1.lt
          have q0 := xb.cell 0
          have q1 := xb.cell 1
          simp only [List.getElem?_toArray, List.getElem?_cons_zero, List.getElem?_cons_succ] at q0 q1
          have zx := xb.lt
          have hnb := HNB.out k
          rename World => wr
          have HC := Lib.hid (HSO.out k hlt _ wr.heap.size (bl_alloc (below_tr B1 hbw) (.cells #[.int .i64 (2 * (k : Int))] 3)) (rd_oneZ wr (2 * (k : Int))))
          have hbA := bl_alloc hbw (.cells #[.int .i64 (2 * (k : Int))] 3)
          have oA := own_on hown (bl_alloc (below_refl wr) (.cells #[.int .i64 (2 * (k : Int))] 3))
          cases hV : heldB (lfS l (woM l k)) s
          · rw [hV] at HC hnb
            have HSS := Lib.hid (ndK_yes hnb)
            clear hV hnb
            go_wp2_with fail
            refine HC.out.mono ?_
            rintro e w4 ⟨rfl, hb4⟩
            have B9 := below_tr hbA hb4
            have hown8 := own_on oA hb4
            have hz8 := B9.size
            go_wp2_with (at_builtin; refine wpList_append_own _ rfl _ _ 25 rfl w1.heap.size 3 i9 (.int .i64 0) 1 8 (by kernel_rfl) hi hi1 hi2 hi3 rfl (by omega) _ _ _ rfl (hown8.alloc _) ⟨w4.heap.size, 0, none⟩ 1 1 (zC (k : Int)) rfl rfl (cells_new w4 (zC (k : Int)) 3) (zC_oneI k) (by unfold maxLen; omega) (by omega) (by simp; omega) ?_; intro v' w9 hown9 hgrow _)
            go_roundw
            case rel => exact ⟨k + 1, by omega, by go_num, bl_app B9 hown8 hgrow (Nat.le_refl _) B9.size, by rw [HSS.out, fl_snocZ, List.length_append]; exact hown9⟩
            case measure => simp [intOf]; omega
          · rw [hV] at HC hnb
            have HSS := Lib.hid (ndK_no hnb)
            clear hV hnb
            go_wp2_with fail
            refine HC.out.mono ?_
            rintro e w4 ⟨rfl, hb4⟩
            have B9 := below_tr hbA hb4
            have hown8 := own_on oA hb4
            go_wp2
            go_roundw
            case rel => exact ⟨k + 1, by omega, by go_num, B9, by rw [HSS.out]; exact hown8⟩
            case measure => simp [intOf]; omega
        · obtain rfl : k = l.length := by omega
          go_wp2
          go_ret2
          exact ⟨_, rfl, own_base hown B1.size, below_tr B1 hbw⟩
  · have hE : ndE l s = stE l s := by unfold ndE; rw [if_neg he]
    have hL : ndL l s = [] := by unfold ndL; rw [hE, if_neg he]
    rw [hE, hL]
    have hg := he
    rw [stD_no he] at HST
    obtain ⟨E, hEE⟩ : ∃ E : Int, E = stE l s := ⟨_, rfl⟩
    rw [← hEE] at HST hg ⊢
    clear he hE hL hEE
    go_enter Tryd.func16, Tryd.ntmps16
    go_wp2_with fail
    refine HST.out.mono ?_
    rintro e w1 ⟨rfl, hb1⟩
    go_wp2
    go_ret2
    exact ⟨_, rfl, ownZ_nil _ _, below_tr B0 hb1⟩
theorem nd_any {l : List Pr} {s : Sp} {i : Nat} (hi : i < l.length) : (ndK l s l.length).any (fun y => y == (i : Int)) = ndB l s i := by
  rw [Bool.eq_iff_iff, List.any_eq_true]
  unfold ndK nZ
  constructor
  · rintro ⟨y, hy, e⟩
    obtain ⟨j, hj, rfl⟩ := List.mem_map.1 hy
    rw [List.mem_filter] at hj
    have e2 : (j : Int) = (i : Int) := by simpa using e
    have : j = i := by omega
    rw [← this]; exact hj.2
  · intro h
    exact ⟨(i : Int), List.mem_map.2 ⟨i, List.mem_filter.2 ⟨by simpa using hi, h⟩, rfl⟩, by simp⟩
theorem fe_one {l : List Pr} {s : Sp} {i : Nat} (he : ndE l s = 0) (hi : i < l.length) : feB l s [2 * (i : Int)] = (ndL l s).any (fun y => y == (i : Int)) := by
  have hst : stE l s = 0 := by
    unfold ndE at he
    by_cases h : stE l s = 0
    · exact h
    · rw [if_neg h] at he; exact absurd he h
  obtain ⟨hv, hs⟩ := stE_z hst
  have hls : lsB l.length [2 * (i : Int)] = true := by
    unfold lsB
    simp only [List.length_cons, List.length_nil, List.all_cons, List.all_nil, Bool.and_true, Bool.and_eq_true]
    exact ⟨rfl, by rw [wn_iff]; omega⟩
  have hri : riA l s [2 * (i : Int)] = true := by
    unfold riA
    rw [hv, hs, hls]
    have : riB l s [2 * (i : Int)] 0 = true := by
      unfold riB
      rw [show ([2 * (i : Int)].take (0 + 1)) = [2 * (i : Int)] from rfl, thM_one hi]
      simp
    simp [List.range_succ, this]
  rw [feB_yes hri (thM_one hi)]
  unfold ndL
  rw [if_pos he, nd_any hi]
  simp [ndB]
theorem ndE_i {l : List Pr} {s : Sp} (h : ndE l s = 0) : l.length ≤ 24 := by
  have hst : stE l s = 0 := by
    unfold ndE at h
    by_cases h' : stE l s = 0
    · exact h'
    · rw [if_neg h'] at h; exact absurd h h'
  exact vP_len (stE_z hst).1
set_option maxHeartbeats 4000000 in
set_option maxRecDepth 20000 in
theorem l_FellNeeds (A : Option Addr) (l : List Pr) (c : Nat) (s : Sp) (n : Int) (w : World) (hl : l.length ≤ maxLen) (n0 : -9223372036854775808 ≤ n) (n1 : n ≤ 9223372036854775807) (hT : Tab w) (hR : Rd Pr.cs 3 w A l) :
    Calls Tryd.prog 4 #[.slice A l.length c, spV s, .int .i64 n] w fun e w' => e = .returned (.bool true) ∧ Below w.heap.size w w' := by
  have x0 := Blk.new w 24 (spA s)
  have B0 := bl_alloc (below_refl w) (.cells (spA s) 24)
  have HAW := Lib.hid l_awake
  have HM := Lib.hid (fun W => p_many A l.length c W hl)
  unfold maxLen at hl
  cases hm : manyB l.length
  rotate_left
  · rw [hm] at HM
    go_enter Tryd.func4, Tryd.ntmps4
    go_wp2_with fail
    refine (HAW.out _).mono ?_
    rintro e w1 ⟨rfl, hb1⟩
    go_wp2_with (go_at_call 7; ((with_reducible refine (HM.out _).mono ?_); rintro e w' ⟨rfl, rfl⟩))
    go_ret
    exact ⟨rfl, below_tr B0 hb1⟩
  rw [hm] at HM
  have h30 : l.length ≤ 30 := by unfold manyB at hm; simp at hm; omega
  clear hm
  have HN1 := Lib.hid (fun (W : World) (hb : Below w.heap.size w W) => p_Needed A l c s W (by omega) vP_len (TabAt.on hT hb) (hR.on hb))
  have HN2 := Lib.hid (fun (W : World) (hb : Below w.heap.size w W) => r_Needed A l c s W (by omega) (hR.on hb))
  have HB1 := Lib.hid (fun (W : World) (hb : Below w.heap.size w W) => p_Burnt A l c W (by omega) (hR.on hb))
  have HB2 := Lib.hid (fun (W : World) (hb : Below w.heap.size w W) => r_Burnt A l c W (by omega) (hR.on hb))
  have HFE := Lib.hid (fun (i : Nat) (W : World) (g : Nat) (hb : Below w.heap.size w W) (hB : Rd zC 1 W (some ⟨g, 0, none⟩) [2 * (i : Int)]) => p_Fells A (some ⟨g, 0, none⟩) l s [2 * (i : Int)] c 1 W (by omega) (by simp) (TabAt.on hT hb) (hR.on hb) hB)
  have HNE := Lib.hid (fun (he : ndE l s = 0) (i : Nat) (hi : i < l.length) => fe_one he hi)
  have hLL : (ndL l s).length ≤ 100000 := by
    unfold ndL
    split
    · have := ndK_len l s l.length; omega
    · simp
  have hPL : (brL l).length ≤ 100000 := by
    unfold brL
    split
    · have := List.length_filter_le (fun y : Pr => !y.wd) l; omega
    · simp
  unfold NedP at HN1 HN2
  unfold BurP at HB1 HB2
  clear hR hT
  generalize ndL l s = LL at *
  generalize ndE l s = E at *
  generalize brL l = PL at *
  generalize brE l = PE at *
  by_cases hE : E = 0
  rotate_left
  · have t1 : (E == 0) = false := by simpa using hE
    have t2 : (E != 0) = true := by simp [hE]
    go_enter Tryd.func4, Tryd.ntmps4
    go_wp2_with fail
    refine (HAW.out _).mono ?_
    rintro e w1 ⟨rfl, hb1⟩
    have B1 := below_tr B0 hb1
    have x1 := x0.below hb1 x0.lt
    have p0 := x1.cell 0
    have p1 := x1.cell 1
    simp only [List.getElem?_toArray, List.getElem?_cons_zero, List.getElem?_cons_succ] at p0 p1
    have lx1 := x1.lt
    clear x0 B0 hb1 HAW
    go_wp2_with (go_at_call 7; ((with_reducible refine (HM.out _).mono ?_); rintro e w' ⟨rfl, rfl⟩))
    refine (HN1.out _ B1).mono ?_
    rintro e w2 ⟨v2, rfl, ho2, hb2⟩
    obtain ⟨A2, c2, rfl, hr2⟩ := own_rd zC_len ho2
    have B2 := below_tr B1 hb2
    have x2 := x1.below hb2 x1.lt
    have p0 := x2.cell 0
    have p1 := x2.cell 1
    simp only [List.getElem?_toArray, List.getElem?_cons_zero, List.getElem?_cons_succ] at p0 p1
    have lx2 := x2.lt
    clear ho2 x1 B1 hb2 HN1
    go_wp2_with fail
    refine (HN2.out _ B2).mono ?_
    rintro e w3 ⟨v3, rfl, ho3, hb3⟩
    obtain ⟨A3, c3, rfl, hr3⟩ := own_rd zC_len ho3
    have B3 := below_tr B2 hb3
    have x3 := x2.below hb3 x2.lt
    have hr2 := hr2.on hb3
    have HSM2 := Lib.hid (r_sameIntsD A2 A3 LL c2 c3 w3 hLL hr2 hr3)
    clear ho3 x2 B2 hb3 HN2 hr3
    go_wp2_with fail
    refine HSM2.out.mono ?_
    rintro e w4 ⟨rfl, hb4⟩
    have B4 := below_tr B3 hb4
    have x4 := x3.below hb4 x3.lt
    have hr2 := hr2.on hb4
    clear x3 B3 hb4 HSM2
    go_wp2_with fail
    refine (HB1.out _ B4).mono ?_
    rintro e w5 ⟨A5, c5, rfl, hr5, hb5⟩
    have B5 := below_tr B4 hb5
    have x5 := x4.below hb5 x4.lt
    have hr2 := hr2.on hb5
    clear x4 B4 hb5 HB1
    go_wp2_with fail
    refine (HB2.out _ B5).mono ?_
    rintro e w6 ⟨A6, c6, rfl, hr6, hb6⟩
    have B6 := below_tr B5 hb6
    have x6 := x5.below hb6 x5.lt
    have hr2 := hr2.on hb6
    have HPP := Lib.hid (l_props A5 A6 PL c5 c6 w6 hPL (hr5.on hb6) hr6)
    clear x5 B5 hb6 HB2 hr5 hr6
    go_wp2_with fail
    refine HPP.out.mono ?_
    rintro e w7 ⟨rfl, hb7⟩
    have B7 := below_tr B6 hb7
    have x7 := x6.below hb7 x6.lt
    have hr7 := hr2.on hb7
    clear x6 B6 hb7 HPP hr2
    go_wp2
    go_ret
    exact ⟨rfl, B7⟩
  subst hE
  by_cases hn0 : n < 0
  · have d1 : decide (n < 0) = true := decide_eq_true hn0
    go_enter Tryd.func4, Tryd.ntmps4
    go_wp2_with fail
    refine (HAW.out _).mono ?_
    rintro e w1 ⟨rfl, hb1⟩
    have B1 := below_tr B0 hb1
    have x1 := x0.below hb1 x0.lt
    have p0 := x1.cell 0
    have p1 := x1.cell 1
    simp only [List.getElem?_toArray, List.getElem?_cons_zero, List.getElem?_cons_succ] at p0 p1
    have lx1 := x1.lt
    clear x0 B0 hb1 HAW
    go_wp2_with (go_at_call 7; ((with_reducible refine (HM.out _).mono ?_); rintro e w' ⟨rfl, rfl⟩))
    refine (HN1.out _ B1).mono ?_
    rintro e w2 ⟨v2, rfl, ho2, hb2⟩
    obtain ⟨A2, c2, rfl, hr2⟩ := own_rd zC_len ho2
    have B2 := below_tr B1 hb2
    have x2 := x1.below hb2 x1.lt
    have p0 := x2.cell 0
    have p1 := x2.cell 1
    simp only [List.getElem?_toArray, List.getElem?_cons_zero, List.getElem?_cons_succ] at p0 p1
    have lx2 := x2.lt
    clear ho2 x1 B1 hb2 HN1
    go_wp2_with fail
    refine (HN2.out _ B2).mono ?_
    rintro e w3 ⟨v3, rfl, ho3, hb3⟩
    obtain ⟨A3, c3, rfl, hr3⟩ := own_rd zC_len ho3
    have B3 := below_tr B2 hb3
    have x3 := x2.below hb3 x2.lt
    have hr2 := hr2.on hb3
    have HSM2 := Lib.hid (r_sameIntsD A2 A3 LL c2 c3 w3 hLL hr2 hr3)
    clear ho3 x2 B2 hb3 HN2 hr3
    go_wp2_with fail
    refine HSM2.out.mono ?_
    rintro e w4 ⟨rfl, hb4⟩
    have B4 := below_tr B3 hb4
    have x4 := x3.below hb4 x3.lt
    have hr2 := hr2.on hb4
    clear x3 B3 hb4 HSM2
    go_wp2_with fail
    refine (HB1.out _ B4).mono ?_
    rintro e w5 ⟨A5, c5, rfl, hr5, hb5⟩
    have B5 := below_tr B4 hb5
    have x5 := x4.below hb5 x4.lt
    have hr2 := hr2.on hb5
    clear x4 B4 hb5 HB1
    go_wp2_with fail
    refine (HB2.out _ B5).mono ?_
    rintro e w6 ⟨A6, c6, rfl, hr6, hb6⟩
    have B6 := below_tr B5 hb6
    have x6 := x5.below hb6 x5.lt
    have hr2 := hr2.on hb6
    have HPP := Lib.hid (l_props A5 A6 PL c5 c6 w6 hPL (hr5.on hb6) hr6)
    clear x5 B5 hb6 HB2 hr5 hr6
    go_wp2_with fail
    refine HPP.out.mono ?_
    rintro e w7 ⟨rfl, hb7⟩
    have B7 := below_tr B6 hb7
    have x7 := x6.below hb7 x6.lt
    have hr7 := hr2.on hb7
    clear x6 B6 hb7 HPP hr2
    go_wp2
    go_ret
    exact ⟨rfl, B7⟩
  by_cases hn1 : (l.length : Int) ≤ n
  · have d1 : decide (n < 0) = false := decide_eq_false hn0
    have d2 : decide ((l.length : Int) ≤ n) = true := decide_eq_true hn1
    go_enter Tryd.func4, Tryd.ntmps4
    go_wp2_with fail
    refine (HAW.out _).mono ?_
    rintro e w1 ⟨rfl, hb1⟩
    have B1 := below_tr B0 hb1
    have x1 := x0.below hb1 x0.lt
    have p0 := x1.cell 0
    have p1 := x1.cell 1
    simp only [List.getElem?_toArray, List.getElem?_cons_zero, List.getElem?_cons_succ] at p0 p1
    have lx1 := x1.lt
    clear x0 B0 hb1 HAW
    go_wp2_with (go_at_call 7; ((with_reducible refine (HM.out _).mono ?_); rintro e w' ⟨rfl, rfl⟩))
    refine (HN1.out _ B1).mono ?_
    rintro e w2 ⟨v2, rfl, ho2, hb2⟩
    obtain ⟨A2, c2, rfl, hr2⟩ := own_rd zC_len ho2
    have B2 := below_tr B1 hb2
    have x2 := x1.below hb2 x1.lt
    have p0 := x2.cell 0
    have p1 := x2.cell 1
    simp only [List.getElem?_toArray, List.getElem?_cons_zero, List.getElem?_cons_succ] at p0 p1
    have lx2 := x2.lt
    clear ho2 x1 B1 hb2 HN1
    go_wp2_with fail
    refine (HN2.out _ B2).mono ?_
    rintro e w3 ⟨v3, rfl, ho3, hb3⟩
    obtain ⟨A3, c3, rfl, hr3⟩ := own_rd zC_len ho3
    have B3 := below_tr B2 hb3
    have x3 := x2.below hb3 x2.lt
    have hr2 := hr2.on hb3
    have HSM2 := Lib.hid (r_sameIntsD A2 A3 LL c2 c3 w3 hLL hr2 hr3)
    clear ho3 x2 B2 hb3 HN2 hr3
    go_wp2_with fail
    refine HSM2.out.mono ?_
    rintro e w4 ⟨rfl, hb4⟩
    have B4 := below_tr B3 hb4
    have x4 := x3.below hb4 x3.lt
    have hr2 := hr2.on hb4
    clear x3 B3 hb4 HSM2
    go_wp2_with fail
    refine (HB1.out _ B4).mono ?_
    rintro e w5 ⟨A5, c5, rfl, hr5, hb5⟩
    have B5 := below_tr B4 hb5
    have x5 := x4.below hb5 x4.lt
    have hr2 := hr2.on hb5
    clear x4 B4 hb5 HB1
    go_wp2_with fail
    refine (HB2.out _ B5).mono ?_
    rintro e w6 ⟨A6, c6, rfl, hr6, hb6⟩
    have B6 := below_tr B5 hb6
    have x6 := x5.below hb6 x5.lt
    have hr2 := hr2.on hb6
    have HPP := Lib.hid (l_props A5 A6 PL c5 c6 w6 hPL (hr5.on hb6) hr6)
    clear x5 B5 hb6 HB2 hr5 hr6
    go_wp2_with fail
    refine HPP.out.mono ?_
    rintro e w7 ⟨rfl, hb7⟩
    have B7 := below_tr B6 hb7
    have x7 := x6.below hb7 x6.lt
    have hr7 := hr2.on hb7
    clear x6 B6 hb7 HPP hr2
    go_wp2
    go_ret
    exact ⟨rfl, B7⟩
  · obtain ⟨i, rfl⟩ := Int.eq_ofNat_of_zero_le (show 0 ≤ n by omega)
    have d1 : decide ((i : Int) < 0) = false := decide_eq_false hn0
    have d2 : decide ((l.length : Int) ≤ (i : Int)) = false := decide_eq_false hn1
    have hil : i < l.length := by omega
    have hw2 : IntKind.i64.wrap (2 * (i : Int)) = 2 * (i : Int) := fits_wrap (by omega)
    have HFB := Lib.hid (HNE.out rfl i hil)
    have HFE2 := Lib.hid (HFE.out i)
    rw [HFB.out] at HFE2
    have hwi0 : (0 : Int) ≤ (i : Int) := Int.natCast_nonneg _
    clear HFB HFE HNE n0 n1
    go_enter Tryd.func4, Tryd.ntmps4
    go_wp2_with fail
    refine (HAW.out _).mono ?_
    rintro e w1 ⟨rfl, hb1⟩
    have B1 := below_tr B0 hb1
    have x1 := x0.below hb1 x0.lt
    have p0 := x1.cell 0
    have p1 := x1.cell 1
    simp only [List.getElem?_toArray, List.getElem?_cons_zero, List.getElem?_cons_succ] at p0 p1
    have lx1 := x1.lt
    clear x0 B0 hb1 HAW
    go_wp2_with (go_at_call 7; ((with_reducible refine (HM.out _).mono ?_); rintro e w' ⟨rfl, rfl⟩))
    refine (HN1.out _ B1).mono ?_
    rintro e w2 ⟨v2, rfl, ho2, hb2⟩
    obtain ⟨A2, c2, rfl, hr2⟩ := own_rd zC_len ho2
    have B2 := below_tr B1 hb2
    have x2 := x1.below hb2 x1.lt
    have p0 := x2.cell 0
    have p1 := x2.cell 1
    simp only [List.getElem?_toArray, List.getElem?_cons_zero, List.getElem?_cons_succ] at p0 p1
    have lx2 := x2.lt
    clear ho2 x1 B1 hb2 HN1
    go_wp2_with fail
    refine (HN2.out _ B2).mono ?_
    rintro e w3 ⟨v3, rfl, ho3, hb3⟩
    obtain ⟨A3, c3, rfl, hr3⟩ := own_rd zC_len ho3
    have B3 := below_tr B2 hb3
    have x3 := x2.below hb3 x2.lt
    have hr2 := hr2.on hb3
    have HSM2 := Lib.hid (r_sameIntsD A2 A3 LL c2 c3 w3 hLL hr2 hr3)
    clear ho3 x2 B2 hb3 HN2 hr3
    go_wp2_with fail
    refine HSM2.out.mono ?_
    rintro e w4 ⟨rfl, hb4⟩
    have B4 := below_tr B3 hb4
    have x4 := x3.below hb4 x3.lt
    have hr2 := hr2.on hb4
    clear x3 B3 hb4 HSM2
    go_wp2_with fail
    refine (HB1.out _ B4).mono ?_
    rintro e w5 ⟨A5, c5, rfl, hr5, hb5⟩
    have B5 := below_tr B4 hb5
    have x5 := x4.below hb5 x4.lt
    have hr2 := hr2.on hb5
    clear x4 B4 hb5 HB1
    go_wp2_with fail
    refine (HB2.out _ B5).mono ?_
    rintro e w6 ⟨A6, c6, rfl, hr6, hb6⟩
    have B6 := below_tr B5 hb6
    have x6 := x5.below hb6 x5.lt
    have hr2 := hr2.on hb6
    have HPP := Lib.hid (l_props A5 A6 PL c5 c6 w6 hPL (hr5.on hb6) hr6)
    clear x5 B5 hb6 HB2 hr5 hr6
    go_wp2_with fail
    refine HPP.out.mono ?_
    rintro e w7 ⟨rfl, hb7⟩
    have B7 := below_tr B6 hb7
    have x7 := x6.below hb7 x6.lt
    have hr7 := hr2.on hb7
    clear x6 B6 hb7 HPP hr2
    go_wp2_with fail
    go_loopw [15, 16] (fun b j wr => ∃ k : Nat, k ≤ LL.length ∧ b = .bool ((LL.take k).any (fun y => y == (i : Int))) ∧ j = .int .i64 k ∧ Below w.heap.size w wr ∧ Blk wr w.heap.size 24 (spA s) ∧ Rd zC 1 wr A2 LL) (fun _ j _ => LL.length - (intOf j).toNat)
    case atStart => exact ⟨0, by omega, rfl, rfl, B7, x7, hr7⟩
    case round =>
      clear B7 x7 hr7
      obtain ⟨k, hk, rfl, rfl, hbw, xb, hrr⟩ := hrel
      have k0 : (0 : Int) ≤ (k : Int) := Int.natCast_nonneg _
      by_cases hlt : k < LL.length
      · have k1 : (k : Int) < (LL.length : Int) := by omega
        obtain ⟨y, b, off, hy, rfl, hb, c0⟩ := rd_int hrr hlt
        have hst : (LL.take (k + 1)).any (fun y => y == (i : Int)) = ((LL.take k).any (fun y => y == (i : Int)) || (y == (i : Int))) := by rw [List.take_add_one, hy, List.any_append]; simp
        clear hy
        cases hV : (LL.take k).any (fun y => y == (i : Int))
        · rw [hV, Bool.false_or] at hst
          by_cases hq : y = (i : Int)
          · have hq2 : (y == (i : Int)) = true := by simpa using hq
            rw [hq2] at hst
            have HV2 := Lib.hid hst
            clear hst
            subst hq
            go_wp2
            go_roundw
            case rel => exact ⟨k + 1, by omega, by rw [HV2.out], by go_num, hbw, xb, hrr⟩
            case measure => simp [intOf]; omega
          · have hq2 : (y == (i : Int)) = false := by simpa using hq
            rw [hq2] at hst
            have HV2 := Lib.hid hst
            clear hst
            go_wp2
            go_roundw
            case rel => exact ⟨k + 1, by omega, by rw [HV2.out], by go_num, hbw, xb, hrr⟩
            case measure => simp [intOf]; omega
        · rw [hV, Bool.true_or] at hst
          have HV2 := Lib.hid hst
          clear hst
          go_wp2
          go_roundw
          case rel => exact ⟨k + 1, by omega, by rw [HV2.out], by go_num, hbw, xb, hrr⟩
          case measure => simp [intOf]; omega
      · obtain rfl : k = LL.length := by omega
        rw [List.take_length]
        rename World => wr
        have p0 := xb.cell 0
        have p1 := xb.cell 1
        simp only [List.getElem?_toArray, List.getElem?_cons_zero, List.getElem?_cons_succ] at p0 p1
        have lx := xb.lt
        have HC := Lib.hid (HFE2.out _ wr.heap.size (bl_alloc hbw (.cells #[.int .i64 (2 * (i : Int))] 3)) (rd_oneZ wr (2 * (i : Int))))
        generalize LL.any (fun y => y == (i : Int)) = V at *
        have B9 := bl_alloc hbw (.cells #[.int .i64 (2 * (i : Int))] 3)
        go_wp2_with fail
        refine HC.out.mono ?_
        rintro e w9 ⟨rfl, hb9⟩
        go_wp2
        go_ret
        exact ⟨by simp, below_tr B9 hb9⟩
theorem f_FellNeeds (A : Option Addr) (l : List Pr) (c : Nat) (s : Sp) (n : Int) (w : World) (hT : Tab w) (hl : l.length ≤ maxLen) (hR : Rd Pr.cs 3 w A l) (_ : ∀ x ∈ l, True) (_ : True) (hn : (Lit.int .i64 n).wf = true) :
    Calls Tryd.prog 4 #[.slice A l.length c, .agg s.cs.toArray, .int .i64 n] w fun e w' => e = .returned (.bool true) ∧ Below w.heap.size w w' :=
  l_FellNeeds A l c s n w hl (i64_of hn).1 (i64_of hn).2 hT hR
end Go.Proofs.YtkeojokbpjdhpaaDoor
