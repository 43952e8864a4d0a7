/- Gear's texts: Parse of the reference. -/
import Derived.Test.YtoelekhkgknneaaDoorUj
import Derived.Deep.AppendLies
set_option linter.unusedSimpArgs false
set_option linter.unusedVariables false
namespace Go.Proofs.YtoelekhkgknneaaDoor
open Go.RowKit Go.Lib

theorem rdRI_no {t : List UInt8} (h : (cutZ 32 t).length ≠ 4) : rdRI t = none := by
  unfold rdRI
  split
  · rename_i a b c d e; rw [e] at h; exact absurd rfl h
  · rfl
theorem rdRI_four {t a b c d : List UInt8} (h : cutZ 32 t = [a, b, c, d]) : rdRI t = if (numB b && numB c) = true then some ⟨bts a, numV b, numV c, bts d⟩ else none := by
  unfold rdRI; rw [h]
theorem four_of {P : List (List UInt8)} (h : P.length = 4) : ∃ a b c d, P = [a, b, c, d] := by
  match P, h with
  | [a, b, c, d], _ => exact ⟨a, b, c, d, rfl⟩
theorem r_CutR (s : ByteArray) (b : UInt8) (w : World) (hs : s.size ≤ 100000) {n : Nat} (hn : (cutZ b s.data.toList).length = n) :
    Calls Tryd.prog 45 #[.string s, .int .u8 (b.toNat : Int)] w fun e w' => ∃ A c, e = .returned (.slice A n c) ∧ Rd stG 1 w' A (cutZ b s.data.toList) ∧ Below w.heap.size w w' ∧ (∀ g o, A = some ⟨g, o, none⟩ → w.heap.size ≤ g) := by
  refine (r_Cut s b w hs).mono ?_
  rintro e w' ⟨v, rfl, ho, hb⟩
  have hge := own_ge ho
  obtain ⟨A, c, rfl, hr⟩ := own_rd stG_len ho
  rw [hn]
  exact ⟨A, c, rfl, hr, hb, fun g o h => (hge g (by rw [h]; rfl)).1⟩
set_option maxHeartbeats 4000000 in
set_option maxRecDepth 20000 in
theorem r_ParseG (s : ByteArray) (w : World) (hs : s.size ≤ maxLen) :
    Calls Tryd.prog 11 #[.string s] w (ParP s.data.toList w) := by
  have hsl : s.data.toList.length = s.size := Array.length_toList
  by_cases h65 : 65536 < s.size
  · have z1 : (65536 : Int) < (s.size : Int) := by omega
    have HB := Lib.hid (fun W (hb : Below w.heap.size w W) => @par_long s.data.toList w W (by omega) hb)
    clear hsl
    generalize s.data.toList = L at *
    go_enter Tryd.func11, Tryd.ntmps11
    go_wp2
    go_ret3
    exact HB.out _ (below_refl _)
  · have z1 : ¬ (65536 : Int) < (s.size : Int) := by omega
    have HBAD := Lib.hid (fun W k (h : paG s.data.toList = ([], k, false)) (hb : Below w.heap.size w W) => @par_bad s.data.toList w W k (by omega) h hb)
    have HGD := Lib.hid (fun W g A c (h : paG s.data.toList = (g, 0, true)) (hr : Rd It.cs 4 W A g) (hb : Below w.heap.size w W) (hw : ∀ x ∈ g, IW x) (hl : g.length ≤ 70000) => @par_good s.data.toList w W g A c (by omega) h hr hb hw hl)
    have HP := Lib.hid (paG_ref s.data.toList)
    obtain ⟨M, hM⟩ : ∃ M, (cutZ 10 s.data.toList).length = M + 1 := ⟨(cutZ 10 s.data.toList).length - 1, by have := List.length_pos_iff.2 (cutZ_ne 10 s.data.toList); omega⟩
    have HSP := Lib.hid (r_CutR s 10 w (by omega) hM)
    have hPN := cutZ_len 10 s.data.toList
    have HPS := Lib.hid (fun (k : Nat) (p : List UInt8) (hk : (cutZ 10 s.data.toList)[k]? = some p) => (show p.length ≤ 65536 from Nat.le_trans (cut_sz 10 _ p (List.mem_of_getElem? hk)) (by omega)))
    clear hs
    generalize s.data.toList = L0 at *
    generalize cutZ 10 L0 = P at *
    have hPL : M ≤ 65536 := by omega
    have HM := Lib.hid hM
    rw [show (((10 : UInt8).toNat : Nat) : Int) = 10 from rfl] at HSP
    clear hsl hPN hM
    obtain ⟨ii, hi, hi1, hi2, hi3⟩ := info_item
    go_enter Tryd.func11, Tryd.ntmps11
    go_wp2_with (go_at_call 45; ((with_reducible refine HSP.out.mono ?_); rintro e W1 ⟨A1, c1, rfl, R1, B1, _⟩))
    go_loopw [6, 7] (fun a i wr => ∃ (k : Nat) (g : List It), k ≤ M + 1 ∧ i = .int .i64 k ∧ wr.ownsRow W1.heap.size 52 4 a k (fl It.cs g) ∧ Below W1.heap.size W1 wr ∧ Hid (paG L0 = lnR vldG rdRI k g (P.drop k) ∧ (∀ x ∈ g, IW x) ∧ g.length = k)) (fun _ i _ => M + 1 - (RowKit.intOf i).toNat)
    case atStart => exact ⟨0, [], by omega, rfl, World.ownsRow_nil W1 _ _ _, below_refl _, Lib.hid ⟨HP.out, fun x hx => absurd hx List.not_mem_nil, rfl⟩⟩
    case round =>
      obtain ⟨k, g, hk, rfl, hown, hbw, HH⟩ := hrel
      obtain ⟨ad, cp, rfl⟩ := own_slice hown
      rename World => wr
      have hbvs := hbw.size
      have BW := below_tr B1 hbw
      have hz1 := B1.size
      have k0 : (0 : Int) ≤ (k : Int) := Int.natCast_nonneg _
      by_cases hlt : k < M + 1
      · have k1 : (k : Int) < (M : Int) + 1 := by omega
        obtain ⟨t, ht⟩ := get_lt (l := P) (k := k) (by rw [HM.out]; exact hlt)
        have hd : P.drop k = t :: P.drop (k + 1) := by
          obtain ⟨h, rfl⟩ := List.getElem?_eq_some_iff.1 ht
          exact List.drop_eq_getElem_cons h
        have HST := Lib.hid (HH.out.1.trans (by rw [hd]))
        obtain ⟨b1, off1, rfl, hlb, hcc⟩ := (R1.on hbw).get ht
        have c0 := hcc 0 _ (show (stG t)[0]? = some (.string (bts t)) from rfl)
        simp only [Nat.mul_one, Nat.add_zero] at c0
        have hts := HPS.out k t ht
        have HNC := Lib.hid (cutZ_ne 32 t)
        have HRC := Lib.hid (fun W n (hn : (cutZ 32 t).length = n) => r_CutR (bts t) 32 W (by rw [bts_size]; omega) (n := n) (by rw [bts_list]; exact hn))
        rw [bts_list, show (((32 : UInt8).toNat : Nat) : Int) = 32 from rfl] at HRC
        clear hcc hd
        by_cases hlast : k = M
        · subst hlast
          have HDN : P.drop (k + 1) = [] := by rw [← HM.out]; exact List.drop_length
          by_cases h0 : t = []
          · have hemp : (bts t).toList.isEmpty = true := by subst h0; rw [ByteArray.toList_eq]; rfl
            have HE := Lib.hid (show paG L0 = (g, 0, true) by rw [HST.out, HDN, lnR, if_pos h0])
            have hkg := HH.out.2.2
            have hkl : g.length ≤ 70000 := by omega
            have HRD := Lib.hid (show Rd It.cs 4 wr ad g from own_rd' It.cs_len (by rw [hkg]; exact hown))
            clear h0 hown HST HDN
            generalize bts t = SL at *
            go_wp2
            go_ret3
            rw [← hkg]
            exact HGD.out _ _ _ _ HE.out HRD.out BW HH.out.2.1 hkl
          · have hemp : (bts t).toList.isEmpty = false := by
              rw [ByteArray.toList_eq, bts_list]; cases t; · exact absurd rfl h0
              · rfl
            have HB := Lib.hid (show paG L0 = ([], k, false) by rw [HST.out, HDN, lnR, if_neg h0])
            obtain ⟨N, hN⟩ : ∃ N, (cutZ 32 t).length = N := ⟨_, rfl⟩
            have HR1 := Lib.hid (HRC.out wr N hN)
            clear h0 hown HST HDN HH HGD HRC hN HNC
            generalize bts t = SL at *
            go_wp2_with (go_at_call 45; ((with_reducible refine HR1.out.mono ?_); rintro e w3 ⟨A3, c3, rfl, R3, hb3, _⟩))
            go_ret3
            exact HBAD.out _ _ HB.out (below_tr BW hb3)
        · have hkM : k < M := by omega
          obtain ⟨u, r, hur⟩ : ∃ u r, P.drop (k + 1) = u :: r := List.exists_cons_of_ne_nil (fun h => by have := congrArg List.length h; rw [List.length_drop, HM.out] at this; simp at this; omega)
          rw [hur] at HST
          have HST2 := Lib.hid (HST.out.trans (by rw [lnR]))
          by_cases h4 : (cutZ 32 t).length = 4
          · obtain ⟨ta, tb, tc, td, hcut⟩ := four_of h4
            have HRI := Lib.hid (rdRI_four hcut)
            rw [hcut] at HRC
            have HR1 := Lib.hid (HRC.out wr 4 rfl)
            have hlen : ∀ p ∈ [ta, tb, tc, td], p.length ≤ 65536 := fun p hp => Nat.le_trans (cut_sz 32 t p (by rw [hcut]; exact hp)) hts
            have hla := hlen ta (by simp)
            have hlb2 := hlen tb (by simp)
            have hlc := hlen tc (by simp)
            have hld := hlen td (by simp)
            have HNB := Lib.hid (fun W => r_Number (bts tb) W (by rw [bts_size]; omega))
            have HNCC := Lib.hid (fun W => r_Number (bts tc) W (by rw [bts_size]; omega))
            rw [bts_list] at HNB HNCC
            have hkm : ((k : Int) == (M : Int)) = false := by simp; omega
            have hgk := HH.out.2.2
            clear hcut h4 HRC HNC hlen ht hts
            generalize bts t = SL at *
            go_upto_region 14 with (first
              | (go_at_call 45; ((with_reducible refine HR1.out.mono ?_); rintro e w3 ⟨A3, c3, rfl, R3, hb3, hge3⟩; obtain ⟨b3, o3, rfl, hlt3, hcc3⟩ := R3 (by simp); have hg3 := hge3 _ _ rfl; have q0 := hcc3 0 _ rfl 0 _ rfl; have q1 := hcc3 1 _ rfl 0 _ rfl; have q2 := hcc3 2 _ rfl 0 _ rfl; have q3 := hcc3 3 _ rfl 0 _ rfl; simp only [Nat.zero_mul, Nat.one_mul, Nat.mul_one, Nat.add_zero] at q0 q1 q2 q3; change w3.cell? _ = some (.string (bts tb)) at q1; change w3.cell? _ = some (.string (bts tc)) at q2))
              | (go_at_call 46; ((with_reducible refine (HNB.out _).mono ?_); rintro e w4 ⟨n1, rfl, hn1, hb4⟩; have q24 := ((bcell hb4).1 b3 (o3 + 2) hlt3).trans q2))
              | (go_at_call 46; ((with_reducible refine (HNCC.out _).mono ?_); rintro e w5 ⟨n2, rfl, hn2, hb5⟩)))
            have hb35 := below_tr hb4 hb5
            have hz3 := hb3.size
            have hz5 := hb35.size
            have v0 := ((bcell hb35).1 b3 o3 hlt3).trans q0
            have v3 := ((bcell hb35).1 b3 (o3 + 3) hlt3).trans q3
            have hbr5 := below_tr hb3 hb35
            have own5 := own_on hown hbr5
            have hBW5 := below_tr hbw hbr5
            have HGE := Lib.hid (fun b (hb : (Value.slice ad k cp).ownBlock = some b) => (show b < wr.heap.size from (own_ge hown b hb).2))
            clear q0 q1 q2 q3 q24 hcc3 R3 hge3 HNB HNCC HR1
            change w5.cell? _ = some (.string (bts ta)) at v0
            change w5.cell? _ = some (.string (bts td)) at v3
            have hb3l : b3 < w5.heap.size := Nat.lt_of_lt_of_le hlt3 hz5
            have hb3m : b3 ≠ w5.heap.size := by omega
            go_cut [6] (fun s6 wx => wx.ownsRow W1.heap.size 52 4 s6 (k + 1) (fl It.cs g ++ It.cs ⟨bts ta, n1, n2, bts td⟩) ∧ Below W1.heap.size W1 wx)
            case first =>
              clear HBAD HGD HP HPS HM HST HST2 HH HRI
              go_region_held3 (fun w' => w'.cell? ⟨b3, o3, none⟩ = some (.string (bts ta)) ∧ w'.cell? ⟨b3, o3 + 3, none⟩ = some (.string (bts td)))
                ((first | assumption | (refine ⟨?_, ?_⟩ <;> first | assumption | (go_simp; done) | exact World.grownBy.cell ‹World.grownBy _ _ _› (by go_simp) (fun hb => by have := HGE.out _ hb.symm; simp at this; omega))))
                ((refine step_append_lies _ (by rfl) _ _ _ (by rfl) W1.heap.size 52 ii _ 4 48 Tryd.underlying22 hi hi1 hi2 hi3 rfl (by omega) _ k (fl It.cs g) (by rfl) ((own_drew own5).alloc _) ⟨w5.heap.size, 0, none⟩ 1 1 (It.cs ⟨bts ta, n1, n2, bts td⟩) (by rfl) (by rfl) (cells_new _ _ _) (fun u hu => by simp [It.cs] at hu; rcases hu with rfl | rfl | rfl | rfl <;> rfl) (by omega) (by unfold maxLen; omega) (by omega) (by first | (simp; omega) | simp) _ rfl ?_; intro gg cap w6 hown6 hgrow hat hlt6))
              go_wp2
              go_meet
              exact ⟨hown6, bl_app (below_draw hBW5) (own_drew own5) hgrow (Nat.le_refl _) hBW5.size⟩
            case rest =>
              obtain ⟨hown6, hB6⟩ := hcut
              generalize wc = w6 at *
              have hB60 := below_tr B1 hB6
              obtain ⟨X, hX⟩ : ∃ X : It, X = ⟨bts ta, n1, n2, bts td⟩ := ⟨_, rfl⟩
              have hgl : (g ++ [X]).length = k + 1 := by simp [hgk]
              rw [show fl It.cs g ++ It.cs ⟨bts ta, n1, n2, bts td⟩ = fl It.cs (g ++ [X]) by rw [fl_snoc, hX]] at hown6
              have hown7 := hown6
              rw [← hgl] at hown7
              obtain ⟨A6, c6, rfl, rd6⟩ := own_rd It.cs_len hown7
              rw [hgl] at hown6
              have HSX := Lib.hid (fun (hb : numB tb = true) (hc : numB tc = true) => (show paG L0 = (if vldG (g ++ [X]) = true then lnR vldG rdRI (k + 1) (g ++ [X]) (u :: r) else ([], k, false)) ∧ IW X by
                have e1 := hn1 hb
                have e2 := hn2 hc
                subst e1 e2
                obtain ⟨_, b2, b3⟩ := (num_iff tb).1 hb
                obtain ⟨_, c2, c3⟩ := (num_iff tc).1 hc
                refine ⟨?_, ?_⟩
                · rw [HST2.out, HRI.out, if_pos (by rw [hb, hc]; rfl), ← hX]
                · rw [hX]
                  exact ⟨by rw [bts_size]; unfold maxLen; omega, by rw [bts_size]; unfold maxLen; omega, by dsimp only; omega, by dsimp only; omega, by dsimp only; omega, by dsimp only; omega⟩))
              have HNB := Lib.hid (fun (h : ¬ (numB tb && numB tc) = true) => (show paG L0 = ([], k, false) by rw [HST2.out, HRI.out, if_neg h]))
              have HVD := Lib.hid (fun W v (hv : vldG (g ++ [X]) = v) (hx : IW X) (h : Below w6.heap.size w6 W) => (show Calls Tryd.prog 14 #[.slice A6 (k + 1) c6] W (fun e w' => e = .returned (.bool v) ∧ Below W.heap.size W w') by
                have := r_ValidV (c := c6) hv (by rw [hgl]; omega) (rd6.on h) (fun x hx2 => by
                  rcases List.mem_append.1 hx2 with h | h
                  · exact HH.out.2.1 x h
                  · rw [List.mem_singleton.1 h]; exact hx)
                rwa [hgl] at this))
              clear HRI hn1 hn2 hX hown7 HST HST2
              rw [hgl]
              cases hnb : numB tb
              · have HB := Lib.hid (HNB.out (by rw [hnb]; simp))
                clear HSX HNB HVD HH HGD hnb
                go_wp2
                go_ret3
                exact HBAD.out _ _ HB.out hB60
              · cases hnc : numB tc
                · have HB := Lib.hid (HNB.out (by rw [hnc]; simp))
                  clear HSX HNB HVD HH HGD hnb hnc
                  go_wp2
                  go_ret3
                  exact HBAD.out _ _ HB.out hB60
                · obtain ⟨hpa, iwX⟩ := HSX.out hnb hnc
                  have HPA := Lib.hid hpa
                  cases hv : vldG (g ++ [X])
                  · have HB := Lib.hid (show paG L0 = ([], k, false) by rw [HPA.out, if_neg (by rw [hv]; simp)])
                    have HV := Lib.hid (HVD.out w6 false hv iwX (below_refl _))
                    clear HSX HNB HVD HH HGD hnb hnc hpa HPA hv
                    go_wp2_with (go_at_call 14; ((with_reducible refine HV.out.mono ?_); rintro e w7 ⟨rfl, hb7⟩))
                    go_ret3
                    exact HBAD.out _ _ HB.out (below_tr hB60 hb7)
                  · have HN := Lib.hid (show paG L0 = lnR vldG rdRI (k + 1) (g ++ [X]) (P.drop (k + 1)) ∧ (∀ x ∈ g ++ [X], IW x) ∧ (g ++ [X]).length = k + 1 from ⟨by rw [HPA.out, if_pos hv, hur], fun x hx2 => by
                      rcases List.mem_append.1 hx2 with h | h
                      · exact HH.out.2.1 x h
                      · rw [List.mem_singleton.1 h]; exact iwX, hgl⟩)
                    have HV := Lib.hid (HVD.out w6 true hv iwX (below_refl _))
                    clear HSX HNB HVD HH HGD hnb hnc hpa HPA hv
                    go_wp2_with (go_at_call 14; ((with_reducible refine HV.out.mono ?_); rintro e w7 ⟨rfl, hb7⟩))
                    go_roundw
                    case rel => exact ⟨k + 1, g ++ [X], by omega, by go_num, own_on hown6 hb7, below_tr hB6 hb7, HN⟩
                    case measure => simp [RowKit.intOf]; omega
          · have HB := Lib.hid (show paG L0 = ([], k, false) by rw [HST2.out, rdRI_no h4])
            obtain ⟨N, hN⟩ : ∃ N, (cutZ 32 t).length = N := ⟨_, rfl⟩
            have HR1 := Lib.hid (HRC.out wr N hN)
            have hN4 : ¬ N = 4 := by rw [← hN]; exact h4
            have hN5 : ((N : Int) == 4) = false := by simp; omega
            have hkm : ((k : Int) == (M : Int)) = false := by simp; omega
            have hNl : N ≤ 70000 := by have := cutZ_len 32 t; omega
            clear hown HST HST2 HH HGD HRC hN HNC h4
            generalize bts t = SL at *
            go_wp2_with (go_at_call 45; ((with_reducible refine HR1.out.mono ?_); rintro e w3 ⟨A3, c3, rfl, R3, hb3, _⟩))
            go_ret3
            exact HBAD.out _ _ HB.out (below_tr BW hb3)
      · obtain rfl : k = M + 1 := by omega
        have HE := Lib.hid (show paG L0 = (g, 0, true) by rw [HH.out.1, ← HM.out, List.drop_length]; rfl)
        have hkg := HH.out.2.2
        have HRD := Lib.hid (show Rd It.cs 4 wr ad g from own_rd' It.cs_len (by rw [hkg]; exact hown))
        have hkl : g.length ≤ 70000 := by omega
        have HW := Lib.hid HH.out.2.1
        have HKG := Lib.hid hkg
        clear hown HH hlt hkg
        have k1 : ((M : Int) + 1 < (M : Int) + 1) = False := by simp
        go_wp2
        go_ret3
        rw [← HKG.out]
        exact HGD.out _ _ _ _ HE.out HRD.out BW HW.out hkl
end Go.Proofs.YtoelekhkgknneaaDoor
