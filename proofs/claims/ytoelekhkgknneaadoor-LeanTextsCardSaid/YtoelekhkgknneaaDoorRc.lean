/- Lean's texts: Parse of the reference. -/
import Derived.Test.YtoelekhkgknneaaDoorRb
import Derived.Deep.AppendLies
set_option linter.unusedSimpArgs false
set_option linter.unusedVariables false
namespace Go.Proofs.YtoelekhkgknneaaDoor.Tx
open Go.RowKit Go.Lib

theorem r1_WordsR (s : ByteArray) (b : UInt8) (w : World) (hs : s.size ≤ 100000) {n : Nat} (hn : (cutZ b s.data.toList).length = n) :
    Calls Tryd.prog 60 #[.string s, .int .u8 (b.toNat : Int)] w fun e w' => ∃ A c, e = .returned (.slice A n c) ∧ Rd stG 1 w' A (cutZ b s.data.toList) ∧ Below w.heap.size w w' := by
  refine (r1_Words s b w hs).mono ?_
  rintro e w' ⟨v, rfl, ho, hb⟩
  obtain ⟨A, c, rfl, hr⟩ := own_rd stG_len ho
  rw [hn]
  exact ⟨A, c, rfl, hr, hb⟩
theorem rdN_yes {n : Nat} {t : List UInt8} (h : (cutZ 32 t).all numB = true) (hn : (cutZ 32 t).length = n) : rdN n t = some ((cutZ 32 t).map numV) := by
  unfold rdN; rw [if_pos (by rw [h, decide_eq_true hn]; rfl)]
theorem rdN_no {n : Nat} {t : List UInt8} (h : ¬ ((cutZ 32 t).all numB = true ∧ (cutZ 32 t).length = n)) : rdN n t = none := by
  unfold rdN; rw [if_neg]
  rw [Bool.and_eq_true, decide_eq_true_eq]; exact h
theorem three_q {L : List (List UInt8)} (h : L.length = 3) : ∃ a b c, L = [a, b, c] := by
  match L, h with
  | [a, b, c], _ => exact ⟨a, b, c, rfl⟩
set_option maxHeartbeats 4000000 in
set_option maxRecDepth 20000 in
theorem r_ParseM (s : ByteArray) (w : World) (hs : s.size ≤ maxLen) :
    Calls Tryd.prog 31 #[.string s] w (ParP mkX Mk.cs 3 s.data.toList w) := by
  have hsl : s.data.toList.length = s.size := Array.length_toList
  by_cases h65 : 65536 < s.size
  · have z1 : (65536 : Int) < (s.size : Int) := by omega
    have HB := Lib.hid (fun W (hb : Below w.heap.size w W) => @par_long Mk mkX Mk.cs 3 s.data.toList w W (by omega) hb)
    clear hsl
    generalize s.data.toList = L at *
    go_enter Tryd.func31, Tryd.ntmps31
    go_wp2
    go_ret3
    exact HB.out _ (below_refl _)
  · have z1 : ¬ (65536 : Int) < (s.size : Int) := by omega
    have HBAD := Lib.hid (fun W k (h : mkX.pa s.data.toList = ([], k, false)) (hb : Below w.heap.size w W) => @par_bad Mk mkX Mk.cs 3 s.data.toList w W k (by omega) h hb)
    have HGD := Lib.hid (fun W g A c (h : mkX.pa s.data.toList = (g, 0, true)) (hr : Rd Mk.cs 3 W A g) (hb : Below w.heap.size w W) (hl : g.length ≤ 70000) => @par_good Mk mkX Mk.cs 3 s.data.toList w W g A c (by omega) h hr hb hl)
    have HP := Lib.hid (fun h : s.data.toList ≠ [] => mkX.pa_ref h)
    have HP0 := Lib.hid (fun h : s.data.toList = [] => (show mkX.pa s.data.toList = ([], 0, false) by unfold LayX.pa; rw [if_pos h]))
    have HJ := Lib.hid (fun h : cutZ 10 s.data.toList = [[]] => (show s.data.toList = [] by have := join_cut 10 s.data.toList; rw [h] at this; exact this.symm))
    obtain ⟨M, hM⟩ : ∃ M, (cutZ 10 s.data.toList).length = M + 1 := ⟨(cutZ 10 s.data.toList).length - 1, by have := List.length_pos_iff.2 (cutZ_ne 10 s.data.toList); omega⟩
    have HSP := Lib.hid (r1_WordsR s 10 w (by omega) hM)
    have hPN := cutZ_len 10 s.data.toList
    have HPS := Lib.hid (fun (k : Nat) (p : List UInt8) (hk : (cutZ 10 s.data.toList)[k]? = some p) => (show p.length ≤ 65536 from Nat.le_trans (cut_sz 10 _ p (List.mem_of_getElem? hk)) (by omega)))
    have HC0 := Lib.hid (show s.data.toList = [] → cutZ 10 s.data.toList = [[]] by intro h; rw [h]; rfl)
    clear hs
    generalize s.data.toList = L0 at *
    generalize cutZ 10 L0 = P at *
    have hPL : M ≤ 65536 := by omega
    have HM := Lib.hid hM
    rw [show (((10 : UInt8).toNat : Nat) : Int) = 10 from rfl] at HSP
    clear hsl hPN hM
    have hw1 : IntKind.i64.wrap ((M : Int) + 1 - 1) = (M : Int) := by rw [show (M : Int) + 1 - 1 = (M : Int) by omega]; exact fits_wrap ⟨by omega, by omega⟩
    obtain ⟨ii, hi, hi1, hi2, hi3⟩ := info_mark
    go_enter Tryd.func31, Tryd.ntmps31
    go_wp2_with (go_at_call 60; ((with_reducible refine HSP.out.mono ?_); rintro e W1 ⟨A1, c1, rfl, R1, B1⟩))
    go_loopw [6, 7] (fun a i wr => ∃ (k : Nat) (g : List Mk), k ≤ M ∧ i = .int .i64 k ∧ wr.ownsRow W1.heap.size 110 3 a k (fl Mk.cs g) ∧ Below W1.heap.size W1 wr ∧ Hid ((L0 ≠ [] → mkX.pa L0 = lnR mkX.vld mkX.rdR k g (P.drop k)) ∧ g.length = k)) (fun _ i _ => M - (RowKit.intOf i).toNat)
    case atStart => exact ⟨0, [], by omega, rfl, World.ownsRow_nil W1 _ _ _, below_refl _, Lib.hid ⟨HP.out, rfl⟩⟩
    case round =>
      obtain ⟨k, g, hk, rfl, hown, hbw, HH⟩ := hrel
      obtain ⟨ad, cp, rfl⟩ := own_slice hown
      rename World => wr
      have hbvs := hbw.size
      have BW := below_tr B1 hbw
      have hz1 := B1.size
      have k0 : (0 : Int) ≤ (k : Int) := Int.natCast_nonneg _
      obtain ⟨t, ht⟩ := get_lt (l := P) (k := k) (by rw [HM.out]; omega)
      have hd : P.drop k = t :: P.drop (k + 1) := by
        obtain ⟨h, rfl⟩ := List.getElem?_eq_some_iff.1 ht
        exact List.drop_eq_getElem_cons h
      obtain ⟨t', b1, off1, ht', rfl, hlb, c0⟩ := rd_txt (R1.on hbw) (k := k) (by rw [HM.out]; omega)
      obtain rfl : t' = t := Option.some.inj (ht'.symm.trans ht)
      have hts := HPS.out k t' ht
      by_cases hlt : k < M
      · have k1 : (k : Int) < (M : Int) := by omega
        have k2 : (k : Int) < (M : Int) + 1 := by omega
        have HL0 := Lib.hid (show L0 ≠ [] from fun h => by have := congrArg List.length (HC0.out h); rw [HM.out] at this; simp at this; omega)
        have HST := Lib.hid ((HH.out.1 HL0.out).trans (by rw [hd]))
        obtain ⟨u, r, hur⟩ : ∃ u r, P.drop (k + 1) = u :: r := List.exists_cons_of_ne_nil (fun h => by have := congrArg List.length h; rw [List.length_drop, HM.out] at this; simp at this; omega)
        rw [hur] at HST
        have HST2 := Lib.hid (HST.out.trans (by rw [lnR]))
        have hgk := HH.out.2
        obtain ⟨Q, hQ⟩ : ∃ Q, cutZ 32 t' = Q := ⟨_, rfl⟩
        obtain ⟨N, hN⟩ : ∃ N, Q.length = N := ⟨_, rfl⟩
        have HRC := Lib.hid (fun W => r1_WordsR (bts t') 32 W (by rw [bts_size]; omega) (n := N) (by rw [bts_list, hQ]; exact hN))
        rw [bts_list, show (((32 : UInt8).toNat : Nat) : Int) = 32 from rfl, hQ] at HRC
        have hQl : Q.length ≤ 65537 := by have := cutZ_len 32 t'; rw [hQ] at this; omega
        have HNM := Lib.hid (fun W A c (h : Rd stG 1 W A Q) => (show Calls Tryd.prog 61 #[.slice A N c] W (NumsP Q W) from hN ▸ r1_Numbers A Q c W (by omega) h (fun p hp => by have := cut_sz 32 t' p (by rw [hQ]; exact hp); omega)))
        have HRY := Lib.hid (fun (h : Q.all numB = true) (h6 : Q.length = 3) => (show mkX.rdR t' = some (ofM (Q.map numV)) by
          have := rdN_yes (n := 3) (by rw [hQ]; exact h) (by rw [hQ]; exact h6)
          unfold LayX.rdR
          rw [show mkX.n = 3 from rfl, this, hQ]; rfl))
        have HRN := Lib.hid (fun (h : ¬ (Q.all numB = true ∧ Q.length = 3)) => (show mkX.rdR t' = none by
          have := rdN_no (n := 3) (by rw [hQ]; exact h)
          unfold LayX.rdR
          rw [show mkX.n = 3 from rfl, this]))
        clear ht ht' hd hQ HH
        generalize bts t' = SL at *
        by_cases hgo : Q.all numB = true ∧ Q.length = 3
        · obtain ⟨hall, h6⟩ := hgo
          obtain ⟨x0, x1, x2, hQ6⟩ := three_q h6
          have HA := Lib.hid hall
          obtain rfl : N = 3 := by rw [← hN]; exact h6
          have hvb : ∀ p ∈ Q, -9223372036854775808 ≤ numV p ∧ numV p ≤ 9223372036854775807 := fun p hp => by
            have := (num_iff p).1 (List.all_eq_true.1 hall p hp)
            omega
          obtain ⟨X, hX⟩ : ∃ X : Mk, X = ⟨numV x0, numV x1, numV x2⟩ := ⟨_, rfl⟩
          have HST3 := Lib.hid (show mkX.pa L0 = (if mkX.vld (g ++ [X]) = true then lnR mkX.vld mkX.rdR (k + 1) (g ++ [X]) (P.drop (k + 1)) else ([], k, false)) by
            rw [HST2.out, HRY.out hall h6, hQ6, hur, hX]; rfl)
          have HQM := Lib.hid (show Q.map numV = [numV x0, numV x1, numV x2] by rw [hQ6]; rfl)
          clear hall h6 HST HST2 HRY HRN hur hvb hQ6
          go_upto_region 11 with (first
            | (go_at_call 60; ((with_reducible refine (HRC.out _).mono ?_); rintro e w3 ⟨A3, c3, rfl, R3, hb3⟩))
            | (go_at_call 61; ((with_reducible refine (HNM.out _ _ _ R3).mono ?_); rintro e w5 ⟨A4, k4, c4, rfl, h4, hb4⟩; obtain ⟨rfl, R4, hge4⟩ := h4 HA.out; rw [HA.out, hN]; rw [HQM.out] at R4; obtain ⟨b3, o3, rfl, hlt3, hcc3⟩ := R4 (by simp); have hg3 := hge4 _ _ rfl; have hz3 := hb3.size; have q0 := hcc3 0 _ rfl 0 _ rfl; have q1 := hcc3 1 _ rfl 0 _ rfl; have q2 := hcc3 2 _ rfl 0 _ rfl; simp only [Nat.zero_mul, Nat.one_mul, Nat.mul_one, Nat.add_zero] at q0 q1 q2)))
          have hbr5 := below_tr hb3 hb4
          have own5 := own_on hown hbr5
          have hBW5 := below_tr hbw hbr5
          have hz5 := hbr5.size
          have HGE := Lib.hid (fun b (hb : (Value.slice ad k cp).ownBlock = some b) => (show b < wr.heap.size from (own_ge hown b hb).2))
          have hb3m : b3 ≠ w5.heap.size := by omega
          clear hcc3 HNM HRC
          generalize numV x0 = n0 at *
          generalize numV x1 = n1 at *
          generalize numV x2 = n2 at *
          go_cut [6] (fun s6 wx => wx.ownsRow W1.heap.size 110 3 s6 (k + 1) (fl Mk.cs g ++ [.int .i64 n0, .int .i64 n1, .int .i64 n2]) ∧ Below W1.heap.size W1 wx)
          case first =>
            clear HBAD HGD HP HPS HM HST3
            go_region_held3 (fun w' => w'.cell? ⟨b3, o3, none⟩ = some (.int .i64 n0) ∧ w'.cell? ⟨b3, o3 + 1, none⟩ = some (.int .i64 n1) ∧ w'.cell? ⟨b3, o3 + 2, none⟩ = some (.int .i64 n2))
              ((first | assumption | (refine ⟨?_, ?_, ?_⟩ <;> first | assumption | (go_simp; done) | exact World.grownBy.cell ‹World.grownBy _ _ _› (by go_simp) (fun hb => by have := HGE.out _ hb.symm; simp at this; omega))))
              ((refine step_append_lies _ (by rfl) _ _ _ (by rfl) W1.heap.size 110 ii _ 3 24 Tryd.underlying45 hi hi1 hi2 hi3 rfl (by omega) _ k (fl Mk.cs g) (by rfl) ((own_drew own5).alloc _) ⟨w5.heap.size, 0, none⟩ 1 1 [.int .i64 n0, .int .i64 n1, .int .i64 n2] (by rfl) (by rfl) (cells_new _ _ _) (fun u hu => by simp at hu; rcases hu with rfl | rfl | rfl <;> rfl) (by omega) (by unfold maxLen; omega) (by omega) (by first | (simp; omega) | simp) _ rfl ?_; intro gg cap w6 hown6 hgrow hat hlt6))
            go_wp2
            go_meet
            exact ⟨hown6, bl_app (below_draw hBW5) (own_drew own5) hgrow (Nat.le_refl _) hBW5.size⟩
          case rest =>
            obtain ⟨hown6, hB6⟩ := hcut
            generalize wc = w6 at *
            have hB60 := below_tr B1 hB6
            have hgl : (g ++ [X]).length = k + 1 := by simp [hgk]
            rw [show fl Mk.cs g ++ [Value.int .i64 n0, .int .i64 n1, .int .i64 n2] = fl Mk.cs (g ++ [X]) by rw [fl_snoc, hX]; rfl] at hown6
            have hown7 := hown6
            rw [← hgl] at hown7
            obtain ⟨A6, c6, rfl, rd6⟩ := own_rd cs_len3 hown7
            rw [hgl] at hown6
            have HVD := Lib.hid (fun W v (hv : vldM (g ++ [X]) = v) (h : Below w6.heap.size w6 W) => (show Calls Tryd.prog 67 #[.slice A6 (k + 1) c6] W (fun e w' => e = .returned (.bool v) ∧ Below W.heap.size W w') by
              have := r_ValidMV (c := c6) hv (by rw [hgl]; omega) (rd6.on h)
              rwa [hgl] at this))
            clear hX hown7
            rw [hgl]
            cases hv : vldM (g ++ [X])
            · have HB := Lib.hid (show mkX.pa L0 = ([], k, false) by rw [HST3.out, if_neg (by show ¬ vldM _ = true; rw [hv]; simp)])
              have HV := Lib.hid (HVD.out w6 false hv (below_refl _))
              clear HVD HGD HST3 hv
              go_wp2_with (go_at_call 67; ((with_reducible refine HV.out.mono ?_); rintro e w7 ⟨rfl, hb7⟩))
              go_ret3
              exact HBAD.out _ _ HB.out (below_tr hB60 hb7)
            · have HN := Lib.hid (show (L0 ≠ [] → mkX.pa L0 = lnR mkX.vld mkX.rdR (k + 1) (g ++ [X]) (P.drop (k + 1))) ∧ (g ++ [X]).length = k + 1 from ⟨fun _ => by rw [HST3.out, if_pos (show mkX.vld (g ++ [X]) = true from hv)], hgl⟩)
              have HV := Lib.hid (HVD.out w6 true hv (below_refl _))
              clear HVD HGD HST3 hv
              go_wp2_with (go_at_call 67; ((with_reducible refine HV.out.mono ?_); rintro e w7 ⟨rfl, hb7⟩))
              go_roundw
              case rel => exact ⟨k + 1, g ++ [X], by omega, by go_num, own_on hown6 hb7, below_tr hB6 hb7, HN⟩
              case measure => simp [RowKit.intOf]; omega
        · have HB := Lib.hid (show mkX.pa L0 = ([], k, false) by rw [HST2.out, HRN.out hgo])
          by_cases hall : Q.all numB = true
          · have hN6 : ¬ N = 3 := fun h => hgo ⟨hall, by omega⟩
            have hN5 : ((N : Int) == 3) = false := by simp; omega
            have HA := Lib.hid hall
            clear hgo hall HST HST2 HRY HRN HGD
            go_wp2_with (first
              | (go_at_call 60; ((with_reducible refine (HRC.out _).mono ?_); rintro e w3 ⟨A3, c3, rfl, R3, hb3⟩))
              | (go_at_call 61; ((with_reducible refine (HNM.out _ _ _ R3).mono ?_); rintro e w4 ⟨A4, k4, c4, rfl, h4, hb4⟩; obtain ⟨rfl, R4, _⟩ := h4 HA.out; rw [HA.out, hN])))
            go_ret3
            exact HBAD.out _ _ HB.out (below_tr (below_tr BW hb3) hb4)
          · have HA := Lib.hid (show Q.all numB = false by simpa using hall)
            clear hgo hall HST HST2 HRY HRN HGD
            go_wp2_with (first
              | (go_at_call 60; ((with_reducible refine (HRC.out _).mono ?_); rintro e w3 ⟨A3, c3, rfl, R3, hb3⟩))
              | (go_at_call 61; ((with_reducible refine (HNM.out _ _ _ R3).mono ?_); rintro e w4 ⟨A4, k4, c4, rfl, h4, hb4⟩; rw [HA.out])))
            go_ret3
            exact HBAD.out _ _ HB.out (below_tr (below_tr BW hb3) hb4)
      · obtain rfl : k = M := by omega
        have k1 : ¬ (k : Int) < (k : Int) := by omega
        have k2 : (k : Int) < (k : Int) + 1 := by omega
        have HDN : P.drop (k + 1) = [] := by rw [← HM.out]; exact List.drop_length
        rw [HDN] at hd
        have hgk := HH.out.2
        have hkl : g.length ≤ 70000 := by omega
        by_cases h0 : t' = []
        · have hemp : (bts t').toList.isEmpty = true := by subst h0; rw [ByteArray.toList_eq]; rfl
          by_cases hk0 : k = 0
          · have HB := Lib.hid (show mkX.pa L0 = ([], k, false) by
              subst hk0
              refine HP0.out (HJ.out ?_)
              rw [← List.drop_zero (l := P), hd, h0])
            clear h0 hown HH HGD hd ht ht'
            generalize bts t' = SL at *
            subst hk0
            rw [Nat.add_zero] at c0
            go_wp2
            go_ret3
            exact HBAD.out _ _ HB.out BW
          · have HE := Lib.hid (show mkX.pa L0 = (g, 0, true) by
              rw [HH.out.1 (fun h => by have := congrArg List.length (HC0.out h); rw [HM.out] at this; simp at this; omega), hd, lnR, if_pos h0])
            have hk1 : ((k : Int) == 0) = false := by simp; omega
            have HRD := Lib.hid (show Rd Mk.cs 3 wr ad g from own_rd' cs_len3 (by rw [hgk]; exact hown))
            clear h0 hown HH hd ht ht'
            generalize bts t' = SL at *
            go_wp2
            go_ret3
            rw [← hgk]
            exact HGD.out _ _ _ _ HE.out HRD.out BW hkl
        · have hemp : (bts t').toList.isEmpty = false := by
            rw [ByteArray.toList_eq, bts_list]; cases t'; · exact absurd rfl h0
            · rfl
          have HB := Lib.hid (show mkX.pa L0 = ([], k, false) by
            rw [HH.out.1 (fun h => by
              have h1 := HC0.out h
              rw [h1] at hd
              cases k with
              | zero => simp at hd; exact h0 hd
              | succ k => simp at hd), hd, lnR, if_neg h0])
          clear h0 hown HH HGD hd ht ht'
          generalize bts t' = SL at *
          go_wp2
          go_ret3
          exact HBAD.out _ _ HB.out BW
end Go.Proofs.YtoelekhkgknneaaDoor.Tx
