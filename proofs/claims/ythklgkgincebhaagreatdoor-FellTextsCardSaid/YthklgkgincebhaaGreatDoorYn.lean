/- Fell's texts: Parse of the reference. -/
import Derived.Test.YthklgkgincebhaaGreatDoorYg
import Derived.Test.YthklgkgincebhaaGreatDoorYh
import Derived.Deep.AppendLies
import Derived.Test.YthklgkgincebhaaGreatDoorFaw
import Derived.Test.YthklgkgincebhaaGreatDoorQdoor
import Derived.Test.YthklgkgincebhaaGreatDoorFrameC
import Derived.Test.YthklgkgincebhaaGreatDoorFdec
set_option linter.unusedSimpArgs false
set_option linter.unusedVariables false
namespace Go.Proofs.YthklgkgincebhaaGreatDoor.T6
open Go.RowKit Go.Lib Tx

theorem rdRP_two {t a b : List UInt8} (h : cutZ 32 t = [a, b]) : rdRP t = if (numB a && numB b) = true then some ⟨⟨numV a, numV b⟩, false⟩ else none := by
  unfold rdRP; rw [h]
theorem rdRP_three {t a b : List UInt8} (h : cutZ 32 t = [a, b, wdS]) : rdRP t = if (numB a && numB b) = true then some ⟨⟨numV a, numV b⟩, true⟩ else none := by
  unfold rdRP; rw [h]; dsimp only; rw [decide_eq_true rfl, Bool.true_and]
theorem rdRP_other {t a b c : List UInt8} (h : cutZ 32 t = [a, b, c]) (hc : ¬ c = wdS) : rdRP t = none := by
  unfold rdRP; rw [h]; dsimp only; rw [decide_eq_false hc, Bool.false_and]; rfl
theorem rdRP_no {t : List UInt8} (h2 : (cutZ 32 t).length ≠ 2) (h3 : (cutZ 32 t).length ≠ 3) : rdRP t = none := by
  unfold rdRP
  split
  · rename_i a b e; rw [e] at h2; exact absurd rfl h2
  · rename_i a b c e; rw [e] at h3; exact absurd rfl h3
  · rfl
theorem two_of {P : List (List UInt8)} (h : P.length = 2) : ∃ a b, P = [a, b] := by
  match P, h with
  | [a, b], _ => exact ⟨a, b, rfl⟩
theorem three_of {P : List (List UInt8)} (h : P.length = 3) : ∃ a b c, P = [a, b, c] := by
  match P, h with
  | [a, b, c], _ => exact ⟨a, b, c, rfl⟩
theorem r_CutR (s : ByteArray) (b : UInt8) (w : World) (hs : s.size ≤ 100000) {n : Nat} (hn : (cutZ b s.data.toList).length = n) :
    Calls Tryz.prog 21 #[.string s, .int .u8 (b.toNat : Int)] w fun e w' => ∃ A c, e = .returned (.slice A n c) ∧ Rd stG 1 w' A (cutZ b s.data.toList) ∧ Below w.heap.size w w' ∧ (∀ g o, A = some ⟨g, o, none⟩ → w.heap.size ≤ g) := by
  refine (r_Cut s b w hs).mono ?_
  rintro e w' ⟨v, rfl, ho, hb⟩
  have hge := own_ge ho
  obtain ⟨A, c, rfl, hr⟩ := own_rd stG_len ho
  rw [hn]
  exact ⟨A, c, rfl, hr, hb, fun g o h => (hge g (by rw [h]; rfl)).1⟩
set_option maxHeartbeats 4000000 in
set_option maxRecDepth 20000 in
theorem r_ParseF (s : ByteArray) (w : World) (hs : s.size ≤ maxLen) :
    Calls Tryz.prog 7 #[.string s] w (ParP s.data.toList w) := by
  have hsl : s.data.toList.length = s.size := Array.length_toList
  by_cases h65 : 65536 < s.size
  · have z1 : (65536 : Int) < (s.size : Int) := by omega
    have HB := Lib.hid (fun W (hb : Below w.heap.size w W) => @par_long s.data.toList w W (by omega) hb)
    clear hsl
    generalize s.data.toList = L at *
    go_enter Tryz.func7, Tryz.ntmps7
    go_wp2
    go_ret3
    exact HB.out _ (below_refl _)
  · have z1 : ¬ (65536 : Int) < (s.size : Int) := by omega
    have HBAD := Lib.hid (fun W k (h : paF s.data.toList = ([], k, false)) (hb : Below w.heap.size w W) => @par_bad s.data.toList w W k (by omega) h hb)
    have HGD := Lib.hid (fun W g A c (h : paF s.data.toList = (g, 0, true)) (hr : Rd Pr.cs 3 W A g) (hb : Below w.heap.size w W) (hl : g.length ≤ 70000) => @par_good s.data.toList w W g A c (by omega) h hr hb hl)
    have HP := Lib.hid (paF_ref s.data.toList)
    obtain ⟨M, hM⟩ : ∃ M, (cutZ 10 s.data.toList).length = M + 1 := ⟨(cutZ 10 s.data.toList).length - 1, by have := List.length_pos_iff.2 (cutZ_ne 10 s.data.toList); omega⟩
    have HSP := Lib.hid (r_CutR s 10 w (by omega) hM)
    have hPN := cutZ_len 10 s.data.toList
    have HPS := Lib.hid (fun (k : Nat) (p : List UInt8) (hk : (cutZ 10 s.data.toList)[k]? = some p) => (show p.length ≤ 65536 from Nat.le_trans (cut_sz 10 _ p (List.mem_of_getElem? hk)) (by omega)))
    clear hs
    generalize s.data.toList = L0 at *
    generalize cutZ 10 L0 = P at *
    have hPL : M ≤ 65536 := by omega
    have HM := Lib.hid hM
    rw [show (((10 : UInt8).toNat : Nat) : Int) = 10 from rfl] at HSP
    clear hsl hPN hM
    obtain ⟨ii, hi, hi1, hi2, hi3⟩ := info_prop
    go_enter Tryz.func7, Tryz.ntmps7
    go_wp2_with (go_at_call 21; ((with_reducible refine HSP.out.mono ?_); rintro e W1 ⟨A1, c1, rfl, R1, B1, _⟩))
    go_loopw [6, 7] (fun a i wr => ∃ (k : Nat) (g : List Pr), k ≤ M + 1 ∧ i = .int .i64 k ∧ wr.ownsRow W1.heap.size 34 3 a k (fl Pr.cs g) ∧ Below W1.heap.size W1 wr ∧ Hid (paF L0 = lnR vP rdRP k g (P.drop k) ∧ g.length = k)) (fun _ i _ => M + 1 - (RowKit.intOf i).toNat)
    case atStart => exact ⟨0, [], by omega, rfl, World.ownsRow_nil W1 _ _ _, below_refl _, Lib.hid ⟨HP.out, rfl⟩⟩
    case round =>
      obtain ⟨k, g, hk, rfl, hown, hbw, HH⟩ := hrel
      obtain ⟨ad, cp, rfl⟩ := own_slice hown
      rename World => wr
      have hbvs := hbw.size
      have BW := below_tr B1 hbw
      have hz1 := B1.size
      have k0 : (0 : Int) ≤ (k : Int) := Int.natCast_nonneg _
      by_cases hlt : k < M + 1
      · have k1 : (k : Int) < (M : Int) + 1 := by omega
        obtain ⟨t, ht⟩ := get_lt (l := P) (k := k) (by rw [HM.out]; exact hlt)
        have hd : P.drop k = t :: P.drop (k + 1) := by
          obtain ⟨h, rfl⟩ := List.getElem?_eq_some_iff.1 ht
          exact List.drop_eq_getElem_cons h
        have HST := Lib.hid (HH.out.1.trans (by rw [hd]))
        obtain ⟨b1, off1, rfl, hlb, hcc⟩ := (R1.on hbw).get ht
        have c0 := hcc 0 _ (show (stG t)[0]? = some (.string (bts t)) from rfl)
        simp only [Nat.mul_one, Nat.add_zero] at c0
        have hts := HPS.out k t ht
        have HNC := Lib.hid (cutZ_ne 32 t)
        have HRC := Lib.hid (fun W n (hn : (cutZ 32 t).length = n) => r_CutR (bts t) 32 W (by rw [bts_size]; omega) (n := n) (by rw [bts_list]; exact hn))
        rw [bts_list, show (((32 : UInt8).toNat : Nat) : Int) = 32 from rfl] at HRC
        clear hcc hd
        by_cases hlast : k = M
        · subst hlast
          have HDN : P.drop (k + 1) = [] := by rw [← HM.out]; exact List.drop_length
          by_cases h0 : t = []
          · have hemp : (bts t).toList.isEmpty = true := by subst h0; rw [ByteArray.toList_eq]; rfl
            have HE := Lib.hid (show paF L0 = (g, 0, true) by rw [HST.out, HDN, lnR, if_pos h0])
            have hkg := HH.out.2
            have hkl : g.length ≤ 70000 := by omega
            have HRD := Lib.hid (show Rd Pr.cs 3 wr ad g from own_rd' Pr.cs_len (by rw [hkg]; exact hown))
            clear h0 hown HST HDN
            generalize bts t = SL at *
            go_wp2
            go_ret3
            rw [← hkg]
            exact HGD.out _ _ _ _ HE.out HRD.out BW hkl
          · have hemp : (bts t).toList.isEmpty = false := by
              rw [ByteArray.toList_eq, bts_list]; cases t; · exact absurd rfl h0
              · rfl
            have HB := Lib.hid (show paF L0 = ([], k, false) by rw [HST.out, HDN, lnR, if_neg h0])
            obtain ⟨N, hN⟩ : ∃ N, (cutZ 32 t).length = N := ⟨_, rfl⟩
            have HR1 := Lib.hid (HRC.out wr N hN)
            clear h0 hown HST HDN HH HGD HRC hN HNC
            generalize bts t = SL at *
            go_wp2_with (go_at_call 21; ((with_reducible refine HR1.out.mono ?_); rintro e w3 ⟨A3, c3, rfl, R3, hb3, _⟩))
            go_ret3
            exact HBAD.out _ _ HB.out (below_tr BW hb3)
        · have hkM : k < M := by omega
          obtain ⟨u, r, hur⟩ : ∃ u r, P.drop (k + 1) = u :: r := List.exists_cons_of_ne_nil (fun h => by have := congrArg List.length h; rw [List.length_drop, HM.out] at this; simp at this; omega)
          rw [hur] at HST
          have HST2 := Lib.hid (HST.out.trans (by rw [lnR]))
          by_cases h4 : (cutZ 32 t).length = 2
          · obtain ⟨ta, tb, hcut⟩ := two_of h4
            have HRI := Lib.hid (rdRP_two hcut)
            rw [hcut] at HRC
            have HR1 := Lib.hid (HRC.out wr 2 rfl)
            have hlen : ∀ p ∈ [ta, tb], p.length ≤ 65536 := fun p hp => Nat.le_trans (cut_sz 32 t p (by rw [hcut]; exact hp)) hts
            have hla := hlen ta (by simp)
            have hlb2 := hlen tb (by simp)
            have HNB := Lib.hid (fun W => r_Number (bts ta) W (by rw [bts_size]; omega))
            have HNCC := Lib.hid (fun W => r_Number (bts tb) W (by rw [bts_size]; omega))
            rw [bts_list] at HNB HNCC
            have hkm : ((k : Int) == (M : Int)) = false := by simp; omega
            have hgk := HH.out.2
            clear hcut h4 HRC HNC hlen ht hts
            generalize bts t = SL at *
            go_upto_region 14 with (first
              | (go_at_call 21; ((with_reducible refine HR1.out.mono ?_); rintro e w3 ⟨A3, c3, rfl, R3, hb3, hge3⟩; obtain ⟨b3, o3, rfl, hlt3, hcc3⟩ := R3 (by simp); have hg3 := hge3 _ _ rfl; have q0 := hcc3 0 _ rfl 0 _ rfl; have q1 := hcc3 1 _ rfl 0 _ rfl; simp only [Nat.zero_mul, Nat.one_mul, Nat.mul_one, Nat.add_zero] at q0 q1; change w3.cell? _ = some (.string (bts ta)) at q0; change w3.cell? _ = some (.string (bts tb)) at q1))
              | (go_at_call 22; ((with_reducible refine (HNB.out _).mono ?_); rintro e w4 ⟨n1, rfl, hn1, hb4⟩; have q24 := ((bcell hb4).1 b3 (o3 + 1) hlt3).trans q1))
              | (go_at_call 22; ((with_reducible refine (HNCC.out _).mono ?_); rintro e w5 ⟨n2, rfl, hn2, hb5⟩)))
            have hb35 := below_tr hb4 hb5
            have hz3 := hb3.size
            have hz5 := hb35.size
            have hbr5 := below_tr hb3 hb35
            have own5 := own_on hown hbr5
            have hBW5 := below_tr hbw hbr5
            have HGE := Lib.hid (fun b (hb : (Value.slice ad k cp).ownBlock = some b) => (show b < wr.heap.size from (own_ge hown b hb).2))
            clear q0 q1 q24 hcc3 R3 hge3 HNB HNCC HR1
            have hb3l : b3 < w5.heap.size := Nat.lt_of_lt_of_le hlt3 hz5
            have hb3m : b3 ≠ w5.heap.size := by omega
            go_upto_region 15 with (at_builtin; (refine wpList_append_own _ rfl _ _ 22 rfl W1.heap.size 34 ii (.agg #[.int .i64 0, .int .i64 0, .bool false]) 3 24 (by kernel_rfl) hi hi1 hi2 hi3 rfl (by omega) _ _ _ rfl (own5.alloc _) ⟨w5.heap.size, 0, none⟩ 1 1 (Pr.cs ⟨⟨n1, n2⟩, false⟩) rfl rfl (cells_new w5 (Pr.cs ⟨⟨n1, n2⟩, false⟩) 34) (fun u hu => by simp [Pr.cs] at hu; rcases hu with rfl | rfl | rfl <;> rfl) (by unfold maxLen; omega) (by omega) (by simp; omega) ?_; intro v6 w6 hown6 hgrow6 _))
            have hB6 : Below W1.heap.size W1 w6 := bl_app hBW5 own5 hgrow6 (Nat.le_refl _) hBW5.size
            have hB60 := below_tr B1 hB6
            obtain ⟨X, hX⟩ : ∃ X : Pr, X = ⟨⟨n1, n2⟩, false⟩ := ⟨_, rfl⟩
            have hgl : (g ++ [X]).length = k + 1 := by simp [hgk]
            rw [show fl Pr.cs g ++ Pr.cs ⟨⟨n1, n2⟩, false⟩ = fl Pr.cs (g ++ [X]) by rw [fl_snoc, hX]] at hown6
            have hown7 := hown6
            rw [← hgl] at hown7
            obtain ⟨A6, c6, rfl, rd6⟩ := own_rd Pr.cs_len hown7
            rw [hgl] at hown6
            have HSX := Lib.hid (fun (hb : numB ta = true) (hc : numB tb = true) => (show paF L0 = (if vP (g ++ [X]) = true then lnR vP rdRP (k + 1) (g ++ [X]) (u :: r) else ([], k, false)) by
              have e1 := hn1 hb
              have e2 := hn2 hc
              subst e1 e2
              rw [HST2.out, HRI.out, if_pos (by rw [hb, hc]; rfl), ← hX]))
            have HNB := Lib.hid (fun (h : ¬ (numB ta && numB tb) = true) => (show paF L0 = ([], k, false) by rw [HST2.out, HRI.out, if_neg h]))
            have HVD := Lib.hid (fun W v (hv : vP (g ++ [X]) = v) (h : Below w6.heap.size w6 W) => (show Calls Tryz.prog 10 #[.slice A6 (k + 1) c6] W (fun e w' => e = .returned (.bool v) ∧ Below W.heap.size W w') by
              have := r_ValidV6 (c := c6) hv (by rw [hgl]; omega) (rd6.on h)
              rwa [hgl] at this))
            clear HRI hn1 hn2 hX hown7 HST HST2
            rw [hgl]
            cases hnb : numB ta
            · have HB := Lib.hid (HNB.out (by rw [hnb]; simp))
              clear HSX HNB HVD HH HGD hnb
              go_wp2
              go_ret3
              exact HBAD.out _ _ HB.out hB60
            · cases hnc : numB tb
              · have HB := Lib.hid (HNB.out (by rw [hnc]; simp))
                clear HSX HNB HVD HH HGD hnb hnc
                go_wp2
                go_ret3
                exact HBAD.out _ _ HB.out hB60
              · have hpa := HSX.out hnb hnc
                have HPA := Lib.hid hpa
                cases hv : vP (g ++ [X])
                · have HB := Lib.hid (show paF L0 = ([], k, false) by rw [HPA.out, if_neg (by rw [hv]; simp)])
                  have HV := Lib.hid (HVD.out w6 false hv (below_refl _))
                  clear HSX HNB HVD HH HGD hnb hnc hpa HPA hv
                  go_wp2_with (go_at_call 10; ((with_reducible refine HV.out.mono ?_); rintro e w7 ⟨rfl, hb7⟩))
                  go_ret3
                  exact HBAD.out _ _ HB.out (below_tr hB60 hb7)
                · have HN := Lib.hid (show paF L0 = lnR vP rdRP (k + 1) (g ++ [X]) (P.drop (k + 1)) ∧ (g ++ [X]).length = k + 1 from ⟨by rw [HPA.out, if_pos hv, hur], hgl⟩)
                  have HV := Lib.hid (HVD.out w6 true hv (below_refl _))
                  clear HSX HNB HVD HH HGD hnb hnc hpa HPA hv
                  go_wp2_with (go_at_call 10; ((with_reducible refine HV.out.mono ?_); rintro e w7 ⟨rfl, hb7⟩))
                  go_roundw
                  case rel => exact ⟨k + 1, g ++ [X], by omega, by go_num, own_on hown6 hb7, below_tr hB6 hb7, HN⟩
                  case measure => simp [RowKit.intOf]; omega
          · by_cases h3 : (cutZ 32 t).length = 3
            · obtain ⟨ta, tb, tc, hcut⟩ := three_of h3
              by_cases hw : tc = wdS
              · subst hw
                have HRI := Lib.hid (rdRP_three hcut)
                rw [hcut] at HRC
                have HR1 := Lib.hid (HRC.out wr 3 rfl)
                have hlen : ∀ p ∈ [ta, tb, wdS], p.length ≤ 65536 := fun p hp => Nat.le_trans (cut_sz 32 t p (by rw [hcut]; exact hp)) hts
                have hla := hlen ta (by simp)
                have hlb2 := hlen tb (by simp)
                have HNB := Lib.hid (fun W => r_Number (bts ta) W (by rw [bts_size]; omega))
                have HNCC := Lib.hid (fun W => r_Number (bts tb) W (by rw [bts_size]; omega))
                rw [bts_list] at HNB HNCC
                have hkm : ((k : Int) == (M : Int)) = false := by simp; omega
                have hgk := HH.out.2
                clear hcut h4 HRC HNC hlen ht hts
                generalize bts t = SL at *
                go_upto_region 14 with (first
                  | (go_at_call 21; ((with_reducible refine HR1.out.mono ?_); rintro e w3 ⟨A3, c3, rfl, R3, hb3, hge3⟩; obtain ⟨b3, o3, rfl, hlt3, hcc3⟩ := R3 (by simp); have hg3 := hge3 _ _ rfl; have q0 := hcc3 0 _ rfl 0 _ rfl; have q1 := hcc3 1 _ rfl 0 _ rfl; have q2 := hcc3 2 _ rfl 0 _ rfl; simp only [Nat.zero_mul, Nat.one_mul, Nat.mul_one, Nat.add_zero] at q0 q1 q2; change w3.cell? _ = some (.string (bts ta)) at q0; change w3.cell? _ = some (.string (bts tb)) at q1; change w3.cell? _ = some (.string (bts wdS)) at q2; have hww : ((bts wdS).toList == [119, 111, 111, 100]) = true := by rw [ByteArray.toList_eq]; rfl))
                  | (go_at_call 22; ((with_reducible refine (HNB.out _).mono ?_); rintro e w4 ⟨n1, rfl, hn1, hb4⟩; have q24 := ((bcell hb4).1 b3 (o3 + 1) hlt3).trans q1))
                  | (go_at_call 22; ((with_reducible refine (HNCC.out _).mono ?_); rintro e w5 ⟨n2, rfl, hn2, hb5⟩)))
                have hb35 := below_tr hb4 hb5
                have hz3 := hb3.size
                have hz5 := hb35.size
                have hbr5 := below_tr hb3 hb35
                have own5 := own_on hown hbr5
                have hBW5 := below_tr hbw hbr5
                have HGE := Lib.hid (fun b (hb : (Value.slice ad k cp).ownBlock = some b) => (show b < wr.heap.size from (own_ge hown b hb).2))
                clear q0 q1 q2 q24 hcc3 R3 hge3 HNB HNCC HR1
                have hb3l : b3 < w5.heap.size := Nat.lt_of_lt_of_le hlt3 hz5
                have hb3m : b3 ≠ w5.heap.size := by omega
                go_upto_region 15 with (at_builtin; (refine wpList_append_own _ rfl _ _ 22 rfl W1.heap.size 34 ii (.agg #[.int .i64 0, .int .i64 0, .bool false]) 3 24 (by kernel_rfl) hi hi1 hi2 hi3 rfl (by omega) _ _ _ rfl (own5.alloc _) ⟨w5.heap.size, 0, none⟩ 1 1 (Pr.cs ⟨⟨n1, n2⟩, true⟩) rfl rfl (cells_new w5 (Pr.cs ⟨⟨n1, n2⟩, true⟩) 34) (fun u hu => by simp [Pr.cs] at hu; rcases hu with rfl | rfl | rfl <;> rfl) (by unfold maxLen; omega) (by omega) (by simp; omega) ?_; intro v6 w6 hown6 hgrow6 _))
                have hB6 : Below W1.heap.size W1 w6 := bl_app hBW5 own5 hgrow6 (Nat.le_refl _) hBW5.size
                have hB60 := below_tr B1 hB6
                obtain ⟨X, hX⟩ : ∃ X : Pr, X = ⟨⟨n1, n2⟩, true⟩ := ⟨_, rfl⟩
                have hgl : (g ++ [X]).length = k + 1 := by simp [hgk]
                rw [show fl Pr.cs g ++ Pr.cs ⟨⟨n1, n2⟩, true⟩ = fl Pr.cs (g ++ [X]) by rw [fl_snoc, hX]] at hown6
                have hown7 := hown6
                rw [← hgl] at hown7
                obtain ⟨A6, c6, rfl, rd6⟩ := own_rd Pr.cs_len hown7
                rw [hgl] at hown6
                have HSX := Lib.hid (fun (hb : numB ta = true) (hc : numB tb = true) => (show paF L0 = (if vP (g ++ [X]) = true then lnR vP rdRP (k + 1) (g ++ [X]) (u :: r) else ([], k, false)) by
                  have e1 := hn1 hb
                  have e2 := hn2 hc
                  subst e1 e2
                  rw [HST2.out, HRI.out, if_pos (by rw [hb, hc]; rfl), ← hX]))
                have HNB := Lib.hid (fun (h : ¬ (numB ta && numB tb) = true) => (show paF L0 = ([], k, false) by rw [HST2.out, HRI.out, if_neg h]))
                have HVD := Lib.hid (fun W v (hv : vP (g ++ [X]) = v) (h : Below w6.heap.size w6 W) => (show Calls Tryz.prog 10 #[.slice A6 (k + 1) c6] W (fun e w' => e = .returned (.bool v) ∧ Below W.heap.size W w') by
                  have := r_ValidV6 (c := c6) hv (by rw [hgl]; omega) (rd6.on h)
                  rwa [hgl] at this))
                clear HRI hn1 hn2 hX hown7 HST HST2
                rw [hgl]
                cases hnb : numB ta
                · have HB := Lib.hid (HNB.out (by rw [hnb]; simp))
                  clear HSX HNB HVD HH HGD hnb
                  go_wp2
                  go_ret3
                  exact HBAD.out _ _ HB.out hB60
                · cases hnc : numB tb
                  · have HB := Lib.hid (HNB.out (by rw [hnc]; simp))
                    clear HSX HNB HVD HH HGD hnb hnc
                    go_wp2
                    go_ret3
                    exact HBAD.out _ _ HB.out hB60
                  · have hpa := HSX.out hnb hnc
                    have HPA := Lib.hid hpa
                    cases hv : vP (g ++ [X])
                    · have HB := Lib.hid (show paF L0 = ([], k, false) by rw [HPA.out, if_neg (by rw [hv]; simp)])
                      have HV := Lib.hid (HVD.out w6 false hv (below_refl _))
                      clear HSX HNB HVD HH HGD hnb hnc hpa HPA hv
                      go_wp2_with (go_at_call 10; ((with_reducible refine HV.out.mono ?_); rintro e w7 ⟨rfl, hb7⟩))
                      go_ret3
                      exact HBAD.out _ _ HB.out (below_tr hB60 hb7)
                    · have HN := Lib.hid (show paF L0 = lnR vP rdRP (k + 1) (g ++ [X]) (P.drop (k + 1)) ∧ (g ++ [X]).length = k + 1 from ⟨by rw [HPA.out, if_pos hv, hur], hgl⟩)
                      have HV := Lib.hid (HVD.out w6 true hv (below_refl _))
                      clear HSX HNB HVD HH HGD hnb hnc hpa HPA hv
                      go_wp2_with (go_at_call 10; ((with_reducible refine HV.out.mono ?_); rintro e w7 ⟨rfl, hb7⟩))
                      go_roundw
                      case rel => exact ⟨k + 1, g ++ [X], by omega, by go_num, own_on hown6 hb7, below_tr hB6 hb7, HN⟩
                      case measure => simp [RowKit.intOf]; omega
              · have HB := Lib.hid (show paF L0 = ([], k, false) by rw [HST2.out, rdRP_other hcut hw])
                rw [hcut] at HRC
                have HR1 := Lib.hid (HRC.out wr 3 rfl)
                have hkm : ((k : Int) == (M : Int)) = false := by simp; omega
                have hww : ((bts tc).toList == [119, 111, 111, 100]) = false := by rw [ByteArray.toList_eq, bts_list, wd_eq]; exact decide_eq_false hw
                clear hown HST HST2 HH HGD HRC HNC h4 h3 hcut hw ht hts
                generalize bts t = SL at *
                go_wp2_with (go_at_call 21; ((with_reducible refine HR1.out.mono ?_); rintro e w3 ⟨A3, c3, rfl, R3, hb3, hge3⟩; obtain ⟨b3, o3, rfl, hlt3, hcc3⟩ := R3 (by simp); have q2 := hcc3 2 _ rfl 0 _ rfl; simp only [Nat.zero_mul, Nat.one_mul, Nat.mul_one, Nat.add_zero] at q2; change w3.cell? _ = some (.string (bts tc)) at q2))
                go_ret3
                exact HBAD.out _ _ HB.out (below_tr BW hb3)
            · have HB := Lib.hid (show paF L0 = ([], k, false) by rw [HST2.out, rdRP_no h4 h3])
              obtain ⟨N, hN⟩ : ∃ N, (cutZ 32 t).length = N := ⟨_, rfl⟩
              have HR1 := Lib.hid (HRC.out wr N hN)
              have hN2 : ¬ N = 2 := by rw [← hN]; exact h4
              have hN3 : ¬ N = 3 := by rw [← hN]; exact h3
              have hN4 : ((N : Int) == 2) = false := by simp; omega
              have hN5 : ((N : Int) == 3) = false := by simp; omega
              have hkm : ((k : Int) == (M : Int)) = false := by simp; omega
              have hNl : N ≤ 70000 := by have := cutZ_len 32 t; omega
              clear hown HST HST2 HH HGD HRC hN HNC h4 h3
              generalize bts t = SL at *
              go_wp2_with (go_at_call 21; ((with_reducible refine HR1.out.mono ?_); rintro e w3 ⟨A3, c3, rfl, R3, hb3, _⟩))
              go_ret3
              exact HBAD.out _ _ HB.out (below_tr BW hb3)
      · obtain rfl : k = M + 1 := by omega
        have HE := Lib.hid (show paF L0 = (g, 0, true) by rw [HH.out.1, ← HM.out, List.drop_length]; rfl)
        have hkg := HH.out.2
        have HRD := Lib.hid (show Rd Pr.cs 3 wr ad g from own_rd' Pr.cs_len (by rw [hkg]; exact hown))
        have hkl : g.length ≤ 70000 := by omega
        have HKG := Lib.hid hkg
        clear hown HH hlt hkg
        have k1 : ((M : Int) + 1 < (M : Int) + 1) = False := by simp
        go_wp2
        go_ret3
        rw [← HKG.out]
        exact HGD.out _ _ _ _ HE.out HRD.out BW hkl
end Go.Proofs.YthklgkgincebhaaGreatDoor.T6
namespace Go.Proofs.YthklgkgincebhaaGreatDoor.T6
open Go.RowKit Go.Lib Tx

set_option maxHeartbeats 1000000 in
theorem l_props (A B : Option Addr) (l : List Pr) (c d : Nat) (w : World) (hl : l.length ≤ 100000) (hA : Rd Pr.cs 3 w A l) (hB : Rd Pr.cs 3 w B l) :
    Calls Tryz.prog 9 #[.slice A l.length c, .slice B l.length d] w fun e w' => e = .returned (.bool true) ∧ Below w.heap.size w w' := by
  go_enter Tryz.func9, Tryz.ntmps9
  go_wp2
  go_loopw [5] (fun i wr => ∃ k : Nat, k ≤ l.length ∧ i = .int .i64 k ∧ Below w.heap.size w wr) (fun i _ => l.length - (intOf i).toNat)
  case atStart => exact ⟨0, by omega, rfl, below_refl _⟩
  case round =>
    obtain ⟨k, hk, rfl, hbw⟩ := hrel
    have k0 : (0 : Int) ≤ (k : Int) := Int.natCast_nonneg _
    by_cases hlt : k < l.length
    · have k1 : (k : Int) < (l.length : Int) := by omega
      obtain ⟨x, b, off, hx, rfl, hb, c0, c1, c2⟩ := rdP (hA.on hbw) hlt
      obtain ⟨y, b2, off2, hy, rfl, hb2, d0, d1, d2⟩ := rdP (hB.on hbw) hlt
      obtain rfl : y = x := by have := hy.symm.trans hx; exact Option.some.inj this
      clear hx hy
      go_wp2_with fail
      go_region
      go_wp2
      go_roundw
      case rel => exact ⟨k + 1, by omega, by go_num, by (repeat' (first | assumption | exact below_refl _ | refine bl_alloc ?_ _ | refine Below.setCell ?_ ?_ _ | refine below_draw ?_ | refine below_drewN ?_ _ | refine below_tr ?_ (by assumption))) <;> (first | omega | (simp; done) | (simp; omega))⟩
      case measure => simp [intOf]; omega
    · obtain rfl : k = l.length := by omega
      go_wp2
      go_ret
      exact ⟨rfl, hbw⟩
set_option maxHeartbeats 4000000 in
set_option maxRecDepth 20000 in
theorem l_FellTexts (A : Option Addr) (g : List Pr) (c : Nat) (s : ByteArray) (w : World) (hl : g.length ≤ maxLen) (hs : s.size ≤ maxLen) (hL : LdW w) (hR : Rd Pr.cs 3 w A g) :
    Calls Tryz.prog 3 #[.slice A g.length c, .string s] w fun e w' => e = .returned (.bool true) ∧ Below w.heap.size w w' := by
  have HAW := Lib.hid l_awake
  have hlm := hl
  have hsm := hs
  unfold maxLen at hlm hsm
  by_cases h80 : g.length ≤ 30
  rotate_left
  · have g80 : (30 : Int) < (g.length : Int) := by omega
    go_enter Tryz.func3, Tryz.ntmps3
    go_wp2_with fail
    refine (HAW.out _).mono ?_
    rintro e w1 ⟨rfl, hb1⟩
    go_wp2
    go_ret
    exact ⟨rfl, hb1⟩
  have g80 : ¬ (30 : Int) < (g.length : Int) := by omega
  by_cases h3 : s.size ≤ 3000
  rotate_left
  · have g3 : (3000 : Int) < (s.size : Int) := by omega
    go_enter Tryz.func3, Tryz.ntmps3
    go_wp2_with fail
    refine (HAW.out _).mono ?_
    rintro e w1 ⟨rfl, hb1⟩
    go_wp2
    go_ret
    exact ⟨rfl, hb1⟩
  have g3 : ¬ (3000 : Int) < (s.size : Int) := by omega
  have HF1 := Lib.hid (fun W (hb : Below w.heap.size w W) => p_FormatF A g c W (by omega) (hL.on hb) (hR.on hb))
  have HF2 := Lib.hid (fun W (hb : Below w.heap.size w W) => r_FormatF A g c W (by omega) (hR.on hb))
  have HP1 := Lib.hid (fun W (hb : Below w.heap.size w W) => p_ParseF s W hs (hL.on hb))
  have HP2 := Lib.hid (fun W => r_ParseF s W hs)
  have HPZ := Lib.hid (@paFE_zero s)
  have HF3 := Lib.hid (fun W (hb : Below w.heap.size w W) (B : Option Addr) (d : Nat) (hr : Rd Pr.cs 3 W B (paFE s.data.toList).1) (h2 : (paFE s.data.toList).1.length ≤ 70000) => p_FormatF B (paFE s.data.toList).1 d W (by omega) (hL.on hb) hr)
  have HS1 := Lib.hid (fun W (B D : Option Addr) (b d : Nat) (hb : Rd Pr.cs 3 W B (paFE s.data.toList).1) (hd : Rd Pr.cs 3 W D (paFE s.data.toList).1) (h : (paFE s.data.toList).1.length ≤ 70000) => l_props B D (paFE s.data.toList).1 b d W (by omega) hb hd)
  have HS2 := Lib.hid (fun W (B : Option Addr) (b : Nat) (hb : Rd Pr.cs 3 W B g) (hw : Below w.heap.size w W) => l_props B A g b c W (by omega) hb (hR.on hw))
  have HVG := Lib.hid (fun (b : Bool) (hv : vP g = b) W (hb : Below w.heap.size w W) => r_ValidV6 (c := c) (w := W) hv (by omega) (hR.on hb))
  have HP3 := Lib.hid (fun W (hb : Below w.heap.size w W) => p_ParseF (fmF g) W (by have := fmF_size g; unfold maxLen; omega) (hL.on hb))
  have HPF := Lib.hid (@paFE_fm g)
  have HEM := Lib.hid (fun (h : vP g = false) => (show (fmF g).toList.isEmpty = true by unfold fmF; rw [if_neg (by rw [h]; simp)]; rw [ByteArray.toList_eq]; rfl))
  unfold ParP at HP1 HP2 HP3
  generalize (paFE s.data.toList).1 = LA at *
  generalize (paFE s.data.toList).2.1 = NA at *
  generalize (paFE s.data.toList).2.2 = EA at *
  clear hs h3 hl hlm hsm h80
  cases hv : vP g
  · have HV := Lib.hid (HVG.out false hv)
    have hem := HEM.out hv
    clear hv HVG HEM HP3 HPF HS2
    generalize fmF g = TS at *
    by_cases hE : EA = 0
    · have hpz := HPZ.out hE
      subst hE
      rw [hpz] at HF3
      clear hpz HPZ
      go_enter Tryz.func3, Tryz.ntmps3
      go_wp2_with fail
      refine (HAW.out _).mono ?_
      rintro e w1 ⟨rfl, hb1⟩
      go_wp2_with fail
      refine (HF1.out _ hb1).mono ?_
      rintro e w3 ⟨rfl, hb3⟩
      have B3 := below_tr hb1 hb3
      go_wp2_with fail
      refine (HP1.out _ B3).mono ?_
      rintro e w4 ⟨A4, c4, rfl, hr4, hb4, hl4⟩
      have B4 := below_tr B3 hb4
      go_wp2_with fail
      refine (HP2.out _).mono ?_
      rintro e w5 ⟨A5, c5, rfl, hr5, hb5, _⟩
      have B5 := below_tr B4 hb5
      have hr45 := hr4.on hb5
      go_wp2_with fail
      refine (HF2.out _ B5).mono ?_
      rintro e w6 ⟨rfl, hb6⟩
      have B6 := below_tr B5 hb6
      have HSS := Lib.hid (HS1.out w6 A4 A5 c4 c5 (hr45.on hb6) (hr5.on hb6) hl4)
      have hr46 := hr45.on hb6
      go_wp2_with fail
      refine HSS.out.mono ?_
      rintro e w7 ⟨rfl, hb7⟩
      have B7 := below_tr B6 hb7
      have HFF := Lib.hid (HF3.out w7 B7 A4 c4 (hr46.on hb7) hl4)
      go_wp2_with fail
      refine HFF.out.mono ?_
      rintro e w8 ⟨rfl, hb8⟩
      have B8 := below_tr B7 hb8
      go_wp2_with fail
      refine (HV.out _ B8).mono ?_
      rintro e w9 ⟨rfl, hb9⟩
      have B9 := below_tr B8 hb9
      go_wp2
      go_ret
      exact ⟨ret_bool (by simp [hem]), B9⟩
    · have hEB : (EA == 0) = false := beq_eq_false_iff_ne.2 hE
      clear HPZ HF3 hE
      go_enter Tryz.func3, Tryz.ntmps3
      go_wp2_with fail
      refine (HAW.out _).mono ?_
      rintro e w1 ⟨rfl, hb1⟩
      go_wp2_with fail
      refine (HF1.out _ hb1).mono ?_
      rintro e w3 ⟨rfl, hb3⟩
      have B3 := below_tr hb1 hb3
      go_wp2_with fail
      refine (HP1.out _ B3).mono ?_
      rintro e w4 ⟨A4, c4, rfl, hr4, hb4, hl4⟩
      have B4 := below_tr B3 hb4
      go_wp2_with fail
      refine (HP2.out _).mono ?_
      rintro e w5 ⟨A5, c5, rfl, hr5, hb5, _⟩
      have B5 := below_tr B4 hb5
      have hr45 := hr4.on hb5
      go_wp2_with fail
      refine (HF2.out _ B5).mono ?_
      rintro e w6 ⟨rfl, hb6⟩
      have B6 := below_tr B5 hb6
      have HSS := Lib.hid (HS1.out w6 A4 A5 c4 c5 (hr45.on hb6) (hr5.on hb6) hl4)
      have hr46 := hr45.on hb6
      go_wp2_with fail
      refine HSS.out.mono ?_
      rintro e w7 ⟨rfl, hb7⟩
      have B7 := below_tr B6 hb7
      have B8 := B7
      go_wp2_with fail
      refine (HV.out _ B8).mono ?_
      rintro e w9 ⟨rfl, hb9⟩
      have B9 := below_tr B8 hb9
      go_wp2
      go_ret
      exact ⟨ret_bool (by simp [hem]), B9⟩
  · have HV := Lib.hid (HVG.out true hv)
    have q1 := HPF.out hv
    rw [q1] at HP3
    dsimp only at HP3
    clear hv HVG HEM HPF q1
    generalize fmF g = TS at *
    by_cases hE : EA = 0
    · have hpz := HPZ.out hE
      subst hE
      rw [hpz] at HF3
      clear hpz HPZ
      go_enter Tryz.func3, Tryz.ntmps3
      go_wp2_with fail
      refine (HAW.out _).mono ?_
      rintro e w1 ⟨rfl, hb1⟩
      go_wp2_with fail
      refine (HF1.out _ hb1).mono ?_
      rintro e w3 ⟨rfl, hb3⟩
      have B3 := below_tr hb1 hb3
      go_wp2_with fail
      refine (HP1.out _ B3).mono ?_
      rintro e w4 ⟨A4, c4, rfl, hr4, hb4, hl4⟩
      have B4 := below_tr B3 hb4
      go_wp2_with fail
      refine (HP2.out _).mono ?_
      rintro e w5 ⟨A5, c5, rfl, hr5, hb5, _⟩
      have B5 := below_tr B4 hb5
      have hr45 := hr4.on hb5
      go_wp2_with fail
      refine (HF2.out _ B5).mono ?_
      rintro e w6 ⟨rfl, hb6⟩
      have B6 := below_tr B5 hb6
      have HSS := Lib.hid (HS1.out w6 A4 A5 c4 c5 (hr45.on hb6) (hr5.on hb6) hl4)
      have hr46 := hr45.on hb6
      go_wp2_with fail
      refine HSS.out.mono ?_
      rintro e w7 ⟨rfl, hb7⟩
      have B7 := below_tr B6 hb7
      have HFF := Lib.hid (HF3.out w7 B7 A4 c4 (hr46.on hb7) hl4)
      go_wp2_with fail
      refine HFF.out.mono ?_
      rintro e w8 ⟨rfl, hb8⟩
      have B8 := below_tr B7 hb8
      go_wp2_with fail
      refine (HV.out _ B8).mono ?_
      rintro e w9 ⟨rfl, hb9⟩
      have B9 := below_tr B8 hb9
      go_wp2_with fail
      refine (HP3.out _ B9).mono ?_
      rintro e w10 ⟨A10, c10, rfl, hr10, hb10, _⟩
      have B10 := below_tr B9 hb10
      go_wp2_with fail
      refine (HS2.out _ _ _ hr10 B10).mono ?_
      rintro e w11 ⟨rfl, hb11⟩
      go_wp2
      go_ret
      exact ⟨rfl, below_tr B10 hb11⟩
    · have hEB : (EA == 0) = false := beq_eq_false_iff_ne.2 hE
      clear HPZ HF3 hE
      go_enter Tryz.func3, Tryz.ntmps3
      go_wp2_with fail
      refine (HAW.out _).mono ?_
      rintro e w1 ⟨rfl, hb1⟩
      go_wp2_with fail
      refine (HF1.out _ hb1).mono ?_
      rintro e w3 ⟨rfl, hb3⟩
      have B3 := below_tr hb1 hb3
      go_wp2_with fail
      refine (HP1.out _ B3).mono ?_
      rintro e w4 ⟨A4, c4, rfl, hr4, hb4, hl4⟩
      have B4 := below_tr B3 hb4
      go_wp2_with fail
      refine (HP2.out _).mono ?_
      rintro e w5 ⟨A5, c5, rfl, hr5, hb5, _⟩
      have B5 := below_tr B4 hb5
      have hr45 := hr4.on hb5
      go_wp2_with fail
      refine (HF2.out _ B5).mono ?_
      rintro e w6 ⟨rfl, hb6⟩
      have B6 := below_tr B5 hb6
      have HSS := Lib.hid (HS1.out w6 A4 A5 c4 c5 (hr45.on hb6) (hr5.on hb6) hl4)
      have hr46 := hr45.on hb6
      go_wp2_with fail
      refine HSS.out.mono ?_
      rintro e w7 ⟨rfl, hb7⟩
      have B7 := below_tr B6 hb7
      have B8 := B7
      go_wp2_with fail
      refine (HV.out _ B8).mono ?_
      rintro e w9 ⟨rfl, hb9⟩
      have B9 := below_tr B8 hb9
      go_wp2_with fail
      refine (HP3.out _ B9).mono ?_
      rintro e w10 ⟨A10, c10, rfl, hr10, hb10, _⟩
      have B10 := below_tr B9 hb10
      go_wp2_with fail
      refine (HS2.out _ _ _ hr10 B10).mono ?_
      rintro e w11 ⟨rfl, hb11⟩
      go_wp2
      go_ret
      exact ⟨rfl, below_tr B10 hb11⟩
end Go.Proofs.YthklgkgincebhaaGreatDoor.T6
namespace Go.Proofs.YthklgkgincebhaaGreatDoor
open Go.RowKit
theorem f_FellTexts (A : Option Addr) (g : List Pr) (c : Nat) (s : ByteArray) (w : World) (hL : Tx.LdW w) (hl : g.length ≤ maxLen) (hR : Rd Pr.cs 3 w A g) (_ : ∀ x ∈ g, True) (hs : s.size ≤ maxLen) :
    Calls Tryz.prog 3 #[.slice A g.length c, .string s] w fun e w' => e = .returned (.bool true) ∧ Below w.heap.size w w' :=
  T6.l_FellTexts A g c s w hl hs hL hR
end Go.Proofs.YthklgkgincebhaaGreatDoor
