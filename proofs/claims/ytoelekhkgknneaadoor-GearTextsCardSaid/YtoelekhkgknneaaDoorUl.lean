/- Gear's texts: GearTexts. -/
import Derived.Test.YtoelekhkgknneaaDoorUk
import Derived.Test.YtoelekhkgknneaaDoorGl
set_option linter.unusedSimpArgs false
set_option linter.unusedVariables false
namespace Go.Proofs.YtoelekhkgknneaaDoor
open Go.RowKit Go.Lib

theorem paA_zero {s : ByteArray} (h : (paA s.data.toList).2.2 = 0) : fmG (paA s.data.toList).1 = s := by
  unfold paA at h ⊢
  split at h
  · cases h
  · rename_i h0
    rw [if_neg h0]
    dsimp only at h ⊢
    split at h
    · rename_i h1
      obtain ⟨h2, h3, _⟩ := paG_back h1
      unfold fmG
      rw [if_pos h3, h2, list_bts]
    · cases h
theorem paA_fm {g : List It} (h : vldG g = true) : paA (fmG g).data.toList = (g, 0, 0) := by
  have e : (fmG g).data.toList = fmtZ lnI g := by unfold fmG; rw [if_pos h, bts_list]
  have h64 : g.length ≤ 64 := by unfold vldG at h; rw [Bool.and_eq_true, decide_eq_true_eq] at h; exact h.2
  have := fmt_len (vld_snd h)
  rw [e]
  unfold paA
  rw [if_neg (by omega), paG_fm h]
  rfl
theorem fmG_size (g : List It) : (fmG g).size ≤ 6464 := by
  unfold fmG
  split
  · rename_i h
    have h64 : g.length ≤ 64 := by unfold vldG at h; rw [Bool.and_eq_true, decide_eq_true_eq] at h; exact h.2
    have := fmt_len (vld_snd h)
    rw [bts_size]; omega
  · decide
set_option maxHeartbeats 4000000 in
set_option maxRecDepth 20000 in
theorem l_GearTexts (A : Option Addr) (g : List It) (c : Nat) (s : ByteArray) (w : World) (hl : g.length ≤ maxLen) (hs : s.size ≤ maxLen) (hL : LdW w) (hR : Rd It.cs 4 w A g) (hW : ∀ x ∈ g, IW x) :
    Calls Tryd.prog 3 #[.slice A g.length c, .string s] w fun e w' => e = .returned (.bool true) ∧ Below w.heap.size w w' := by
  have HAW := Lib.hid l_awake
  have HM := Lib.hid (fun W (hb : Below w.heap.size w W) => l_many A none g [] c 0 W hl (by simp [maxLen]) (hR.on hb) hW (fun q => absurd rfl q) (fun x hx => absurd hx List.not_mem_nil))
  rw [List.length_nil] at HM
  have HF1 := Lib.hid (fun W (hb : Below w.heap.size w W) (h : g.length ≤ 80) => p_FormatG A g c W (by omega) (hL.on hb) (hR.on hb) hW)
  have HF2 := Lib.hid (fun W (hb : Below w.heap.size w W) (h : g.length ≤ 80) => r_FormatG A g c W (by omega) (hR.on hb) hW)
  have HP1 := Lib.hid (fun W (hb : Below w.heap.size w W) => p_ParseG s W hs (hL.on hb))
  have HP2 := Lib.hid (fun W => r_ParseG s W hs)
  have HPZ := Lib.hid (@paA_zero s)
  have HF3 := Lib.hid (fun W (hb : Below w.heap.size w W) (B : Option Addr) (d : Nat) (hr : Rd It.cs 4 W B (paA s.data.toList).1) (h1 : ∀ x ∈ (paA s.data.toList).1, IW x) (h2 : (paA s.data.toList).1.length ≤ 70000) => p_FormatG B (paA s.data.toList).1 d W (by omega) (hL.on hb) hr h1)
  have HS1 := Lib.hid (fun W (B D : Option Addr) (b d : Nat) (hb : Rd It.cs 4 W B (paA s.data.toList).1) (hd : Rd It.cs 4 W D (paA s.data.toList).1) (h : (paA s.data.toList).1.length ≤ 70000) => l_items B D (paA s.data.toList).1 b d W (by omega) hb hd)
  have HS2 := Lib.hid (fun W (B : Option Addr) (b : Nat) (hb : Rd It.cs 4 W B g) (hw : Below w.heap.size w W) (h : g.length ≤ 80) => l_items B A g b c W (by omega) hb (hR.on hw))
  have HVG := Lib.hid (fun (b : Bool) (hv : vldG g = b) W (hb : Below w.heap.size w W) (h : g.length ≤ 80) => r_ValidV (c := c) (w := W) hv (by omega) (hR.on hb) hW)
  have HP3 := Lib.hid (fun W (hb : Below w.heap.size w W) => p_ParseG (fmG g) W (by have := fmG_size g; unfold maxLen; omega) (hL.on hb))
  have HPF := Lib.hid (@paA_fm g)
  have HEM := Lib.hid (fun (h : vldG g = false) => (show (fmG g).toList.isEmpty = true by unfold fmG; rw [if_neg (by rw [h]; simp)]; rw [ByteArray.toList_eq]; rfl))
  unfold maxLen at hs
  unfold ParP at HP1 HP2 HP3
  generalize (paA s.data.toList).1 = LA at *
  generalize (paA s.data.toList).2.1 = NA at *
  generalize (paA s.data.toList).2.2 = EA at *
  have HBIG := Lib.hid (fun W (hb : Below w.heap.size w W) (h : g.length ≤ 80) => HF1.out W hb h)
  clear HBIG
  by_cases h3 : s.size ≤ 3000
  rotate_left
  · have g3 : (3000 : Int) < (s.size : Int) := by omega
    clear HPZ HF3 HS1 HS2 HVG HP1 HP2 HP3 HPF HEM HF1 HF2
    go_enter Tryd.func3, Tryd.ntmps3
    go_wp2_with fail
    refine (HAW.out _).mono ?_
    rintro e w1 ⟨rfl, hb1⟩
    go_wp2_with fail
    refine (HM.out _ hb1).mono ?_
    rintro e w2 ⟨v2, rfl, ⟨bm, rfl, hbm⟩, hb2⟩
    have B2 := below_tr hb1 hb2
    cases bm
    rotate_left
    · go_wp2
      go_ret
      exact ⟨rfl, B2⟩
    have h80 := (hbm rfl).1
    go_wp2
    go_ret
    exact ⟨rfl, B2⟩
  have g3 : ¬ (3000 : Int) < (s.size : Int) := by omega
  clear hs h3 hl hW
  cases hv : vldG g
  · have HV := Lib.hid (HVG.out false hv)
    have hem := HEM.out hv
    clear hv HVG HEM HP3 HPF HS2
    generalize fmG g = TS at *
    by_cases hE : EA = 0
    · have hpz := HPZ.out hE
      subst hE
      rw [hpz] at HF3
      clear hpz HPZ
      go_enter Tryd.func3, Tryd.ntmps3
      go_wp2_with fail
      refine (HAW.out _).mono ?_
      rintro e w1 ⟨rfl, hb1⟩
      go_wp2_with fail
      refine (HM.out _ hb1).mono ?_
      rintro e w2 ⟨v2, rfl, ⟨bm, rfl, hbm⟩, hb2⟩
      have B2 := below_tr hb1 hb2
      cases bm
      rotate_left
      · go_wp2
        go_ret
        exact ⟨rfl, B2⟩
      have h80 := (hbm rfl).1
      go_wp2_with fail
      refine (HF1.out _ B2 h80).mono ?_
      rintro e w3 ⟨rfl, hb3⟩
      have B3 := below_tr B2 hb3
      go_wp2_with fail
      refine (HP1.out _ B3).mono ?_
      rintro e w4 ⟨A4, c4, rfl, hr4, hb4, hi4, hl4⟩
      have B4 := below_tr B3 hb4
      go_wp2_with fail
      refine (HP2.out _).mono ?_
      rintro e w5 ⟨A5, c5, rfl, hr5, hb5, _, _⟩
      have B5 := below_tr B4 hb5
      have hr45 := hr4.on hb5
      go_wp2_with fail
      refine (HF2.out _ B5 h80).mono ?_
      rintro e w6 ⟨rfl, hb6⟩
      have B6 := below_tr B5 hb6
      have HSS := Lib.hid (HS1.out w6 A4 A5 c4 c5 (hr45.on hb6) (hr5.on hb6) hl4)
      have hr46 := hr45.on hb6
      go_wp2_with fail
      refine HSS.out.mono ?_
      rintro e w7 ⟨rfl, hb7⟩
      have B7 := below_tr B6 hb7
      have HFF := Lib.hid (HF3.out w7 B7 A4 c4 (hr46.on hb7) hi4 hl4)
      go_wp2_with fail
      refine HFF.out.mono ?_
      rintro e w8 ⟨rfl, hb8⟩
      have B8 := below_tr B7 hb8
      go_wp2_with fail
      refine (HV.out _ B8 h80).mono ?_
      rintro e w9 ⟨rfl, hb9⟩
      have B9 := below_tr B8 hb9
      go_wp2
      go_ret
      exact ⟨ret_bool (by simp [hem]), B9⟩
    · have hEB : (EA == 0) = false := beq_eq_false_iff_ne.2 hE
      clear HPZ HF3 hE
      go_enter Tryd.func3, Tryd.ntmps3
      go_wp2_with fail
      refine (HAW.out _).mono ?_
      rintro e w1 ⟨rfl, hb1⟩
      go_wp2_with fail
      refine (HM.out _ hb1).mono ?_
      rintro e w2 ⟨v2, rfl, ⟨bm, rfl, hbm⟩, hb2⟩
      have B2 := below_tr hb1 hb2
      cases bm
      rotate_left
      · go_wp2
        go_ret
        exact ⟨rfl, B2⟩
      have h80 := (hbm rfl).1
      go_wp2_with fail
      refine (HF1.out _ B2 h80).mono ?_
      rintro e w3 ⟨rfl, hb3⟩
      have B3 := below_tr B2 hb3
      go_wp2_with fail
      refine (HP1.out _ B3).mono ?_
      rintro e w4 ⟨A4, c4, rfl, hr4, hb4, hi4, hl4⟩
      have B4 := below_tr B3 hb4
      go_wp2_with fail
      refine (HP2.out _).mono ?_
      rintro e w5 ⟨A5, c5, rfl, hr5, hb5, _, _⟩
      have B5 := below_tr B4 hb5
      have hr45 := hr4.on hb5
      go_wp2_with fail
      refine (HF2.out _ B5 h80).mono ?_
      rintro e w6 ⟨rfl, hb6⟩
      have B6 := below_tr B5 hb6
      have HSS := Lib.hid (HS1.out w6 A4 A5 c4 c5 (hr45.on hb6) (hr5.on hb6) hl4)
      have hr46 := hr45.on hb6
      go_wp2_with fail
      refine HSS.out.mono ?_
      rintro e w7 ⟨rfl, hb7⟩
      have B7 := below_tr B6 hb7
      go_wp2_with fail
      refine (HV.out _ B7 h80).mono ?_
      rintro e w9 ⟨rfl, hb9⟩
      have B9 := below_tr B7 hb9
      go_wp2
      go_ret
      exact ⟨ret_bool (by simp [hem]), B9⟩
  · have HV := Lib.hid (HVG.out true hv)
    have q1 := HPF.out hv
    rw [q1] at HP3
    dsimp only at HP3
    clear hv HVG HEM HPF q1
    generalize fmG g = TS at *
    by_cases hE : EA = 0
    · have hpz := HPZ.out hE
      subst hE
      rw [hpz] at HF3
      clear hpz HPZ
      go_enter Tryd.func3, Tryd.ntmps3
      go_wp2_with fail
      refine (HAW.out _).mono ?_
      rintro e w1 ⟨rfl, hb1⟩
      go_wp2_with fail
      refine (HM.out _ hb1).mono ?_
      rintro e w2 ⟨v2, rfl, ⟨bm, rfl, hbm⟩, hb2⟩
      have B2 := below_tr hb1 hb2
      cases bm
      rotate_left
      · go_wp2
        go_ret
        exact ⟨rfl, B2⟩
      have h80 := (hbm rfl).1
      go_wp2_with fail
      refine (HF1.out _ B2 h80).mono ?_
      rintro e w3 ⟨rfl, hb3⟩
      have B3 := below_tr B2 hb3
      go_wp2_with fail
      refine (HP1.out _ B3).mono ?_
      rintro e w4 ⟨A4, c4, rfl, hr4, hb4, hi4, hl4⟩
      have B4 := below_tr B3 hb4
      go_wp2_with fail
      refine (HP2.out _).mono ?_
      rintro e w5 ⟨A5, c5, rfl, hr5, hb5, _, _⟩
      have B5 := below_tr B4 hb5
      have hr45 := hr4.on hb5
      go_wp2_with fail
      refine (HF2.out _ B5 h80).mono ?_
      rintro e w6 ⟨rfl, hb6⟩
      have B6 := below_tr B5 hb6
      have HSS := Lib.hid (HS1.out w6 A4 A5 c4 c5 (hr45.on hb6) (hr5.on hb6) hl4)
      have hr46 := hr45.on hb6
      go_wp2_with fail
      refine HSS.out.mono ?_
      rintro e w7 ⟨rfl, hb7⟩
      have B7 := below_tr B6 hb7
      have HFF := Lib.hid (HF3.out w7 B7 A4 c4 (hr46.on hb7) hi4 hl4)
      go_wp2_with fail
      refine HFF.out.mono ?_
      rintro e w8 ⟨rfl, hb8⟩
      have B8 := below_tr B7 hb8
      go_wp2_with fail
      refine (HV.out _ B8 h80).mono ?_
      rintro e w9 ⟨rfl, hb9⟩
      have B9 := below_tr B8 hb9
      go_wp2_with fail
      refine (HP3.out _ B9).mono ?_
      rintro e w10 ⟨A10, c10, rfl, hr10, hb10, _, _⟩
      have B10 := below_tr B9 hb10
      go_wp2_with fail
      refine (HS2.out _ _ _ hr10 B10 h80).mono ?_
      rintro e w11 ⟨rfl, hb11⟩
      go_wp2
      go_ret
      exact ⟨rfl, below_tr B10 hb11⟩
    · have hEB : (EA == 0) = false := beq_eq_false_iff_ne.2 hE
      clear HPZ HF3 hE
      go_enter Tryd.func3, Tryd.ntmps3
      go_wp2_with fail
      refine (HAW.out _).mono ?_
      rintro e w1 ⟨rfl, hb1⟩
      go_wp2_with fail
      refine (HM.out _ hb1).mono ?_
      rintro e w2 ⟨v2, rfl, ⟨bm, rfl, hbm⟩, hb2⟩
      have B2 := below_tr hb1 hb2
      cases bm
      rotate_left
      · go_wp2
        go_ret
        exact ⟨rfl, B2⟩
      have h80 := (hbm rfl).1
      go_wp2_with fail
      refine (HF1.out _ B2 h80).mono ?_
      rintro e w3 ⟨rfl, hb3⟩
      have B3 := below_tr B2 hb3
      go_wp2_with fail
      refine (HP1.out _ B3).mono ?_
      rintro e w4 ⟨A4, c4, rfl, hr4, hb4, hi4, hl4⟩
      have B4 := below_tr B3 hb4
      go_wp2_with fail
      refine (HP2.out _).mono ?_
      rintro e w5 ⟨A5, c5, rfl, hr5, hb5, _, _⟩
      have B5 := below_tr B4 hb5
      have hr45 := hr4.on hb5
      go_wp2_with fail
      refine (HF2.out _ B5 h80).mono ?_
      rintro e w6 ⟨rfl, hb6⟩
      have B6 := below_tr B5 hb6
      have HSS := Lib.hid (HS1.out w6 A4 A5 c4 c5 (hr45.on hb6) (hr5.on hb6) hl4)
      have hr46 := hr45.on hb6
      go_wp2_with fail
      refine HSS.out.mono ?_
      rintro e w7 ⟨rfl, hb7⟩
      have B7 := below_tr B6 hb7
      go_wp2_with fail
      refine (HV.out _ B7 h80).mono ?_
      rintro e w9 ⟨rfl, hb9⟩
      have B9 := below_tr B7 hb9
      go_wp2_with fail
      refine (HP3.out _ B9).mono ?_
      rintro e w10 ⟨A10, c10, rfl, hr10, hb10, _, _⟩
      have B10 := below_tr B9 hb10
      go_wp2_with fail
      refine (HS2.out _ _ _ hr10 B10 h80).mono ?_
      rintro e w11 ⟨rfl, hb11⟩
      go_wp2
      go_ret
      exact ⟨rfl, below_tr B10 hb11⟩
end Go.Proofs.YtoelekhkgknneaaDoor
