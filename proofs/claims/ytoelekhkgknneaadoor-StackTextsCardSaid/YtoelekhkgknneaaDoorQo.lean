/- Stack's texts: StackTexts. -/
import Derived.Test.YtoelekhkgknneaaDoorQn
set_option linter.unusedSimpArgs false
set_option linter.unusedVariables false
namespace Go.Proofs.YtoelekhkgknneaaDoor.Tx
open Go.RowKit Go.Lib

set_option maxRecDepth 20000 in
theorem r_sameS (A B : Option Addr) (l : List Course) (c d : Nat) (w : World) (hl : l.length ≤ 100000) (hA : Rd Course.cs 6 w A l) (hB : Rd Course.cs 6 w B l) :
    Calls Tryd.prog 26 #[.slice A l.length c, .slice B l.length d] w fun e w' => e = .returned (.bool true) ∧ Below w.heap.size w w' := by
  go_enter Tryd.func26, Tryd.ntmps26
  go_wp2
  go_loopw [5] (fun i wr => ∃ k : Nat, k ≤ l.length ∧ i = .int .i64 k ∧ Below w.heap.size w wr) (fun i _ => l.length - (RowKit.intOf i).toNat)
  case atStart => exact ⟨0, by omega, rfl, Below.refl _ _⟩
  case round =>
    obtain ⟨k, hk, rfl, hbw⟩ := hrel
    have hk0 : (0 : Int) ≤ (k : Int) := Int.natCast_nonneg _
    by_cases hkl : k < l.length
    · have hkl2 : (k : Int) < (l.length : Int) := by omega
      obtain ⟨x, b, off, hx, rfl, hb, c0, c1, c2, c3, c4, c5⟩ := rdC (hA.on hbw) hkl
      obtain ⟨y, b', off', hy, rfl, hb', e0, e1, e2, e3, e4, e5⟩ := rdC (hB.on hbw) hkl
      obtain rfl : x = y := by rw [hx] at hy; exact Option.some.inj hy
      clear hx hy
      go_wp2
      go_region
      all_goals go_wp2
      all_goals go_roundw
      all_goals first
        | exact ⟨k + 1, by omega, by go_num, below_draw hbw⟩
        | (simp [RowKit.intOf]; omega)
    · go_wp2
      go_ret
      exact ⟨rfl, hbw⟩
set_option maxHeartbeats 4000000 in
set_option maxRecDepth 20000 in
theorem l_StackTexts (A : Option Addr) (g : List Course) (c : Nat) (s : ByteArray) (w : World) (hl : g.length ≤ maxLen) (hs : s.size ≤ maxLen) (hL : LdW w) (hR : Rd Course.cs 6 w A g) :
    Calls Tryd.prog 5 #[.slice A g.length c, .string s] w fun e w' => e = .returned (.bool true) ∧ Below w.heap.size w w' := by
  by_cases h100 : g.length ≤ 100
  rotate_left
  · have g1 : (100 : Int) < (g.length : Int) := by omega
    go_enter Tryd.func5, Tryd.ntmps5
    go_wp2_with fail
    refine (s_awake _).mono ?_
    rintro e w1 ⟨rfl, hb1⟩
    go_wp2
    go_ret
    exact ⟨rfl, hb1⟩
  have g1 : ¬ (100 : Int) < (g.length : Int) := by omega
  have HF1 := Lib.hid (fun W (hb : Below w.heap.size w W) => p_FormatS A g c W (by omega) (hL.on hb) (hR.on hb))
  have HF2 := Lib.hid (fun W (hb : Below w.heap.size w W) => r_FormatS A g c W (by omega) (hR.on hb))
  have HP1 := Lib.hid (fun W (hb : Below w.heap.size w W) => p_ParseS s W hs (hL.on hb))
  have HP2 := Lib.hid (fun W => r_ParseS s W hs)
  have HPZ := Lib.hid (@LayX.paE_zero _ coX s)
  have HF3 := Lib.hid (fun W (hb : Below w.heap.size w W) (B : Option Addr) (d : Nat) (hr : Rd Course.cs 6 W B (coX.paE s.data.toList).1) (h2 : (coX.paE s.data.toList).1.length ≤ 70000) => p_FormatS B (coX.paE s.data.toList).1 d W (by omega) (hL.on hb) hr)
  have HS1 := Lib.hid (fun W (B D : Option Addr) (b d : Nat) (hb : Rd Course.cs 6 W B (coX.paE s.data.toList).1) (hd : Rd Course.cs 6 W D (coX.paE s.data.toList).1) (h : (coX.paE s.data.toList).1.length ≤ 70000) => r_sameS B D (coX.paE s.data.toList).1 b d W (by omega) hb hd)
  have HS2 := Lib.hid (fun W (B : Option Addr) (b : Nat) (hb : Rd Course.cs 6 W B g) (hw : Below w.heap.size w W) => r_sameS B A g b c W (by omega) hb (hR.on hw))
  have HP3 := Lib.hid (fun W (hb : Below w.heap.size w W) => p_ParseS (coX.fm g) W (by have := coX.fm_size g (by decide); unfold maxLen; omega) (hL.on hb))
  have HPF := Lib.hid (fun h => coX.paE_fm (g := g) h (by decide))
  have HEM := Lib.hid (fun (h : validC g = false) => (show (coX.fm g).toList.isEmpty = true by unfold LayX.fm; rw [if_neg (by show ¬ validC g = true; rw [h]; simp)]; rw [ByteArray.toList_eq]; rfl))
  have HEN := Lib.hid (fun (h : validC g = true) => (show (coX.fm g).toList.isEmpty = false by
    unfold LayX.fm
    rw [if_pos (show coX.vld g = true from h), ByteArray.toList_eq, bts_list]
    have := coX.fm_ne (g := g) (by rintro rfl; rw [show validC [] = false from coX.nnil] at h; cases h)
    cases hq : fmtZ coX.wr g
    · exact absurd hq this
    · rfl))
  unfold maxLen at hs
  unfold ParP at HP1 HP2 HP3
  generalize (coX.paE s.data.toList).1 = LA at *
  generalize (coX.paE s.data.toList).2.1 = NA at *
  generalize (coX.paE s.data.toList).2.2 = EA at *
  clear hs hl
  cases hv : validC g
  · have hem := HEM.out hv
    clear hv HEM HEN HP3 HPF HS2
    generalize coX.fm g = TS at *
    by_cases hE : EA = 0
    · have hpz := HPZ.out hE
      subst hE
      rw [hpz] at HF3
      clear hpz HPZ
      go_enter Tryd.func5, Tryd.ntmps5
      have B0 : Below w.heap.size w w := below_refl w
      go_wp2_with fail
      refine (HP1.out _ B0).mono ?_
      rintro e w1 ⟨A1, c1, rfl, hr1, hb1, hl1⟩
      have B1 := below_tr B0 hb1
      go_wp2_with fail
      refine (HP2.out _).mono ?_
      rintro e w2 ⟨A2, c2, rfl, hr2, hb2, _⟩
      have B2 := below_tr B1 hb2
      have hr12 := hr1.on hb2
      have HSS := Lib.hid (HS1.out w2 A1 A2 c1 c2 hr12 hr2 hl1)
      go_wp2_with fail
      refine (HSS.out).mono ?_
      rintro e w3 ⟨rfl, hb3⟩
      have B3 := below_tr B2 hb3
      have HFF := Lib.hid (HF3.out w3 B3 A1 c1 (hr12.on hb3) hl1)
      go_wp2_with fail
      refine (HFF.out).mono ?_
      rintro e w4 ⟨rfl, hb4⟩
      have B4 := below_tr B3 hb4
      go_wp2_with fail
      refine (HF1.out _ B4).mono ?_
      rintro e w5 ⟨rfl, hb5⟩
      have B5 := below_tr B4 hb5
      go_wp2_with fail
      refine (HF2.out _ B5).mono ?_
      rintro e w6 ⟨rfl, hb6⟩
      have B6 := below_tr B5 hb6
      go_wp2_with fail
      refine (s_awake _).mono ?_
      rintro e w7 ⟨rfl, hb7⟩
      have B7 := below_tr B6 hb7
      go_wp2
      go_ret
      exact ⟨rfl, B7⟩
    · have hEB : (EA == 0) = false := beq_eq_false_iff_ne.2 hE
      clear HPZ HF3 hE
      go_enter Tryd.func5, Tryd.ntmps5
      have B0 : Below w.heap.size w w := below_refl w
      go_wp2_with fail
      refine (HP1.out _ B0).mono ?_
      rintro e w1 ⟨A1, c1, rfl, hr1, hb1, hl1⟩
      have B1 := below_tr B0 hb1
      go_wp2_with fail
      refine (HP2.out _).mono ?_
      rintro e w2 ⟨A2, c2, rfl, hr2, hb2, _⟩
      have B2 := below_tr B1 hb2
      have hr12 := hr1.on hb2
      have HSS := Lib.hid (HS1.out w2 A1 A2 c1 c2 hr12 hr2 hl1)
      go_wp2_with fail
      refine (HSS.out).mono ?_
      rintro e w3 ⟨rfl, hb3⟩
      have B3 := below_tr B2 hb3
      go_wp2_with fail
      refine (HF1.out _ B3).mono ?_
      rintro e w4 ⟨rfl, hb4⟩
      have B4 := below_tr B3 hb4
      go_wp2_with fail
      refine (HF2.out _ B4).mono ?_
      rintro e w5 ⟨rfl, hb5⟩
      have B5 := below_tr B4 hb5
      go_wp2_with fail
      refine (s_awake _).mono ?_
      rintro e w6 ⟨rfl, hb6⟩
      have B6 := below_tr B5 hb6
      go_wp2
      go_ret
      exact ⟨rfl, B6⟩
  · have q1 := HPF.out hv
    have hem := HEN.out hv
    rw [q1] at HP3
    dsimp only at HP3
    clear hv HEM HEN HPF q1
    generalize coX.fm g = TS at *
    by_cases hE : EA = 0
    · have hpz := HPZ.out hE
      subst hE
      rw [hpz] at HF3
      clear hpz HPZ
      go_enter Tryd.func5, Tryd.ntmps5
      have B0 : Below w.heap.size w w := below_refl w
      go_wp2_with fail
      refine (HP1.out _ B0).mono ?_
      rintro e w1 ⟨A1, c1, rfl, hr1, hb1, hl1⟩
      have B1 := below_tr B0 hb1
      go_wp2_with fail
      refine (HP2.out _).mono ?_
      rintro e w2 ⟨A2, c2, rfl, hr2, hb2, _⟩
      have B2 := below_tr B1 hb2
      have hr12 := hr1.on hb2
      have HSS := Lib.hid (HS1.out w2 A1 A2 c1 c2 hr12 hr2 hl1)
      go_wp2_with fail
      refine (HSS.out).mono ?_
      rintro e w3 ⟨rfl, hb3⟩
      have B3 := below_tr B2 hb3
      have HFF := Lib.hid (HF3.out w3 B3 A1 c1 (hr12.on hb3) hl1)
      go_wp2_with fail
      refine (HFF.out).mono ?_
      rintro e w4 ⟨rfl, hb4⟩
      have B4 := below_tr B3 hb4
      go_wp2_with fail
      refine (HF1.out _ B4).mono ?_
      rintro e w5 ⟨rfl, hb5⟩
      have B5 := below_tr B4 hb5
      go_wp2_with fail
      refine (HF2.out _ B5).mono ?_
      rintro e w6 ⟨rfl, hb6⟩
      have B6 := below_tr B5 hb6
      go_wp2_with fail
      refine (HP3.out _ B6).mono ?_
      rintro e w7 ⟨A7, c7, rfl, hr7, hb7, _⟩
      have B7 := below_tr B6 hb7
      go_wp2_with fail
      refine (HS2.out _ _ _ hr7 B7).mono ?_
      rintro e w8 ⟨rfl, hb8⟩
      have B8 := below_tr B7 hb8
      go_wp2_with fail
      refine (s_awake _).mono ?_
      rintro e w9 ⟨rfl, hb9⟩
      have B9 := below_tr B8 hb9
      go_wp2
      go_ret
      exact ⟨rfl, B9⟩
    · have hEB : (EA == 0) = false := beq_eq_false_iff_ne.2 hE
      clear HPZ HF3 hE
      go_enter Tryd.func5, Tryd.ntmps5
      have B0 : Below w.heap.size w w := below_refl w
      go_wp2_with fail
      refine (HP1.out _ B0).mono ?_
      rintro e w1 ⟨A1, c1, rfl, hr1, hb1, hl1⟩
      have B1 := below_tr B0 hb1
      go_wp2_with fail
      refine (HP2.out _).mono ?_
      rintro e w2 ⟨A2, c2, rfl, hr2, hb2, _⟩
      have B2 := below_tr B1 hb2
      have hr12 := hr1.on hb2
      have HSS := Lib.hid (HS1.out w2 A1 A2 c1 c2 hr12 hr2 hl1)
      go_wp2_with fail
      refine (HSS.out).mono ?_
      rintro e w3 ⟨rfl, hb3⟩
      have B3 := below_tr B2 hb3
      go_wp2_with fail
      refine (HF1.out _ B3).mono ?_
      rintro e w4 ⟨rfl, hb4⟩
      have B4 := below_tr B3 hb4
      go_wp2_with fail
      refine (HF2.out _ B4).mono ?_
      rintro e w5 ⟨rfl, hb5⟩
      have B5 := below_tr B4 hb5
      go_wp2_with fail
      refine (HP3.out _ B5).mono ?_
      rintro e w6 ⟨A6, c6, rfl, hr6, hb6, _⟩
      have B6 := below_tr B5 hb6
      go_wp2_with fail
      refine (HS2.out _ _ _ hr6 B6).mono ?_
      rintro e w7 ⟨rfl, hb7⟩
      have B7 := below_tr B6 hb7
      go_wp2_with fail
      refine (s_awake _).mono ?_
      rintro e w8 ⟨rfl, hb8⟩
      have B8 := below_tr B7 hb8
      go_wp2
      go_ret
      exact ⟨rfl, B8⟩
end Go.Proofs.YtoelekhkgknneaaDoor.Tx
