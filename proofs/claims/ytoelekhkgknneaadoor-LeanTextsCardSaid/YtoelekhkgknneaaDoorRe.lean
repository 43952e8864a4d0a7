/- Lean's texts: LeanTexts. -/
import Derived.Test.YtoelekhkgknneaaDoorRc
import Derived.Test.YtoelekhkgknneaaDoorLpa
import Derived.Test.YtoelekhkgknneaaDoorLi
set_option linter.unusedSimpArgs false
set_option linter.unusedVariables false
namespace Go.Proofs.YtoelekhkgknneaaDoor.Tx
open Go.RowKit Go.Lib

set_option maxHeartbeats 4000000 in
set_option maxRecDepth 20000 in
theorem l_LeanTexts (A : Option Addr) (g : List Mk) (c : Nat) (s : ByteArray) (w : World) (hl : g.length ≤ maxLen) (hs : s.size ≤ maxLen) (hL : LdW w) (hR : Rd Mk.cs 3 w A g) :
    Calls Tryd.prog 6 #[.slice A g.length c, .string s] w fun e w' => e = .returned (.bool true) ∧ Below w.heap.size w w' := by
  by_cases h100 : g.length ≤ 100
  rotate_left
  · have g1 : (100 : Int) < (g.length : Int) := by omega
    go_enter Tryd.func6, Tryd.ntmps6
    go_wp2_with fail
    refine (p_awake _).mono ?_
    rintro e w1 ⟨rfl, hb1⟩
    go_wp2
    go_ret
    exact ⟨rfl, hb1⟩
  have g1 : ¬ (100 : Int) < (g.length : Int) := by omega
  have HF1 := Lib.hid (fun W (hb : Below w.heap.size w W) => p_FormatM A g c W (by omega) (hL.on hb) (hR.on hb))
  have HF2 := Lib.hid (fun W (hb : Below w.heap.size w W) => r_FormatM A g c W (by omega) (hR.on hb))
  have HP1 := Lib.hid (fun W (hb : Below w.heap.size w W) => p_ParseM s W hs (hL.on hb))
  have HP2 := Lib.hid (fun W => r_ParseM s W hs)
  have HPZ := Lib.hid (@LayX.paE_zero _ mkX s)
  have HF3 := Lib.hid (fun W (hb : Below w.heap.size w W) (B : Option Addr) (d : Nat) (hr : Rd Mk.cs 3 W B (mkX.paE s.data.toList).1) (h2 : (mkX.paE s.data.toList).1.length ≤ 70000) => p_FormatM B (mkX.paE s.data.toList).1 d W (by omega) (hL.on hb) hr)
  have HS1 := Lib.hid (fun W (B D : Option Addr) (b d : Nat) (hb : Rd Mk.cs 3 W B (mkX.paE s.data.toList).1) (hd : Rd Mk.cs 3 W D (mkX.paE s.data.toList).1) (h : (mkX.paE s.data.toList).1.length ≤ 70000) => r_sameMarks B D (mkX.paE s.data.toList).1 b d W (by omega) hb hd)
  have HS2 := Lib.hid (fun W (B : Option Addr) (b : Nat) (hb : Rd Mk.cs 3 W B g) (hw : Below w.heap.size w W) => r_sameMarks B A g b c W (by omega) hb (hR.on hw))
  have HP3 := Lib.hid (fun W (hb : Below w.heap.size w W) => p_ParseM (mkX.fm g) W (by have := mkX.fm_size g (by decide); unfold maxLen; omega) (hL.on hb))
  have HPF := Lib.hid (fun h => mkX.paE_fm (g := g) h (by decide))
  have HEM := Lib.hid (fun (h : vldM g = false) => (show (mkX.fm g).toList.isEmpty = true by unfold LayX.fm; rw [if_neg (by show ¬ vldM g = true; rw [h]; simp)]; rw [ByteArray.toList_eq]; rfl))
  have HEN := Lib.hid (fun (h : vldM g = true) => (show (mkX.fm g).toList.isEmpty = false by
    unfold LayX.fm
    rw [if_pos (show mkX.vld g = true from h), ByteArray.toList_eq, bts_list]
    have := mkX.fm_ne (g := g) (by rintro rfl; rw [show vldM [] = false from mkX.nnil] at h; cases h)
    cases hq : fmtZ mkX.wr g
    · exact absurd hq this
    · rfl))
  unfold maxLen at hs
  unfold ParP at HP1 HP2 HP3
  generalize (mkX.paE s.data.toList).1 = LA at *
  generalize (mkX.paE s.data.toList).2.1 = NA at *
  generalize (mkX.paE s.data.toList).2.2 = EA at *
  clear hs hl
  cases hv : vldM g
  · have hem := HEM.out hv
    clear hv HEM HEN HP3 HPF HS2
    generalize mkX.fm g = TS at *
    by_cases hE : EA = 0
    · have hpz := HPZ.out hE
      subst hE
      rw [hpz] at HF3
      clear hpz HPZ
      go_enter Tryd.func6, Tryd.ntmps6
      have B0 : Below w.heap.size w w := below_refl w
      go_wp2_with fail
      refine (HP1.out _ B0).mono ?_
      rintro e w1 ⟨A1, c1, rfl, hr1, hb1, hl1⟩
      have B1 := below_tr B0 hb1
      go_wp2_with fail
      refine (HP2.out _).mono ?_
      rintro e w2 ⟨A2, c2, rfl, hr2, hb2, _⟩
      have B2 := below_tr B1 hb2
      have hr12 := hr1.on hb2
      have HSS := Lib.hid (HS1.out w2 A1 A2 c1 c2 hr12 hr2 hl1)
      go_wp2_with fail
      refine (HSS.out).mono ?_
      rintro e w3 ⟨rfl, hb3⟩
      have B3 := below_tr B2 hb3
      have HFF := Lib.hid (HF3.out w3 B3 A1 c1 (hr12.on hb3) hl1)
      go_wp2_with fail
      refine (HFF.out).mono ?_
      rintro e w4 ⟨rfl, hb4⟩
      have B4 := below_tr B3 hb4
      go_wp2_with fail
      refine (HF1.out _ B4).mono ?_
      rintro e w5 ⟨rfl, hb5⟩
      have B5 := below_tr B4 hb5
      go_wp2_with fail
      refine (HF2.out _ B5).mono ?_
      rintro e w6 ⟨rfl, hb6⟩
      have B6 := below_tr B5 hb6
      go_wp2_with fail
      refine (p_awake _).mono ?_
      rintro e w7 ⟨rfl, hb7⟩
      have B7 := below_tr B6 hb7
      go_wp2
      go_ret
      exact ⟨rfl, B7⟩
    · have hEB : (EA == 0) = false := beq_eq_false_iff_ne.2 hE
      clear HPZ HF3 hE
      go_enter Tryd.func6, Tryd.ntmps6
      have B0 : Below w.heap.size w w := below_refl w
      go_wp2_with fail
      refine (HP1.out _ B0).mono ?_
      rintro e w1 ⟨A1, c1, rfl, hr1, hb1, hl1⟩
      have B1 := below_tr B0 hb1
      go_wp2_with fail
      refine (HP2.out _).mono ?_
      rintro e w2 ⟨A2, c2, rfl, hr2, hb2, _⟩
      have B2 := below_tr B1 hb2
      have hr12 := hr1.on hb2
      have HSS := Lib.hid (HS1.out w2 A1 A2 c1 c2 hr12 hr2 hl1)
      go_wp2_with fail
      refine (HSS.out).mono ?_
      rintro e w3 ⟨rfl, hb3⟩
      have B3 := below_tr B2 hb3
      go_wp2_with fail
      refine (HF1.out _ B3).mono ?_
      rintro e w4 ⟨rfl, hb4⟩
      have B4 := below_tr B3 hb4
      go_wp2_with fail
      refine (HF2.out _ B4).mono ?_
      rintro e w5 ⟨rfl, hb5⟩
      have B5 := below_tr B4 hb5
      go_wp2_with fail
      refine (p_awake _).mono ?_
      rintro e w6 ⟨rfl, hb6⟩
      have B6 := below_tr B5 hb6
      go_wp2
      go_ret
      exact ⟨rfl, B6⟩
  · have q1 := HPF.out hv
    have hem := HEN.out hv
    rw [q1] at HP3
    dsimp only at HP3
    clear hv HEM HEN HPF q1
    generalize mkX.fm g = TS at *
    by_cases hE : EA = 0
    · have hpz := HPZ.out hE
      subst hE
      rw [hpz] at HF3
      clear hpz HPZ
      go_enter Tryd.func6, Tryd.ntmps6
      have B0 : Below w.heap.size w w := below_refl w
      go_wp2_with fail
      refine (HP1.out _ B0).mono ?_
      rintro e w1 ⟨A1, c1, rfl, hr1, hb1, hl1⟩
      have B1 := below_tr B0 hb1
      go_wp2_with fail
      refine (HP2.out _).mono ?_
      rintro e w2 ⟨A2, c2, rfl, hr2, hb2, _⟩
      have B2 := below_tr B1 hb2
      have hr12 := hr1.on hb2
      have HSS := Lib.hid (HS1.out w2 A1 A2 c1 c2 hr12 hr2 hl1)
      go_wp2_with fail
      refine (HSS.out).mono ?_
      rintro e w3 ⟨rfl, hb3⟩
      have B3 := below_tr B2 hb3
      have HFF := Lib.hid (HF3.out w3 B3 A1 c1 (hr12.on hb3) hl1)
      go_wp2_with fail
      refine (HFF.out).mono ?_
      rintro e w4 ⟨rfl, hb4⟩
      have B4 := below_tr B3 hb4
      go_wp2_with fail
      refine (HF1.out _ B4).mono ?_
      rintro e w5 ⟨rfl, hb5⟩
      have B5 := below_tr B4 hb5
      go_wp2_with fail
      refine (HF2.out _ B5).mono ?_
      rintro e w6 ⟨rfl, hb6⟩
      have B6 := below_tr B5 hb6
      go_wp2_with fail
      refine (HP3.out _ B6).mono ?_
      rintro e w7 ⟨A7, c7, rfl, hr7, hb7, _⟩
      have B7 := below_tr B6 hb7
      go_wp2_with fail
      refine (HS2.out _ _ _ hr7 B7).mono ?_
      rintro e w8 ⟨rfl, hb8⟩
      have B8 := below_tr B7 hb8
      go_wp2_with fail
      refine (p_awake _).mono ?_
      rintro e w9 ⟨rfl, hb9⟩
      have B9 := below_tr B8 hb9
      go_wp2
      go_ret
      exact ⟨rfl, B9⟩
    · have hEB : (EA == 0) = false := beq_eq_false_iff_ne.2 hE
      clear HPZ HF3 hE
      go_enter Tryd.func6, Tryd.ntmps6
      have B0 : Below w.heap.size w w := below_refl w
      go_wp2_with fail
      refine (HP1.out _ B0).mono ?_
      rintro e w1 ⟨A1, c1, rfl, hr1, hb1, hl1⟩
      have B1 := below_tr B0 hb1
      go_wp2_with fail
      refine (HP2.out _).mono ?_
      rintro e w2 ⟨A2, c2, rfl, hr2, hb2, _⟩
      have B2 := below_tr B1 hb2
      have hr12 := hr1.on hb2
      have HSS := Lib.hid (HS1.out w2 A1 A2 c1 c2 hr12 hr2 hl1)
      go_wp2_with fail
      refine (HSS.out).mono ?_
      rintro e w3 ⟨rfl, hb3⟩
      have B3 := below_tr B2 hb3
      go_wp2_with fail
      refine (HF1.out _ B3).mono ?_
      rintro e w4 ⟨rfl, hb4⟩
      have B4 := below_tr B3 hb4
      go_wp2_with fail
      refine (HF2.out _ B4).mono ?_
      rintro e w5 ⟨rfl, hb5⟩
      have B5 := below_tr B4 hb5
      go_wp2_with fail
      refine (HP3.out _ B5).mono ?_
      rintro e w6 ⟨A6, c6, rfl, hr6, hb6, _⟩
      have B6 := below_tr B5 hb6
      go_wp2_with fail
      refine (HS2.out _ _ _ hr6 B6).mono ?_
      rintro e w7 ⟨rfl, hb7⟩
      have B7 := below_tr B6 hb7
      go_wp2_with fail
      refine (p_awake _).mono ?_
      rintro e w8 ⟨rfl, hb8⟩
      have B8 := below_tr B7 hb8
      go_wp2
      go_ret
      exact ⟨rfl, B8⟩
end Go.Proofs.YtoelekhkgknneaaDoor.Tx
