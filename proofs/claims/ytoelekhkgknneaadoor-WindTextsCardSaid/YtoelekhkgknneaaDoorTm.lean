/- Wind's texts: WindTexts. -/
import Derived.Test.YtoelekhkgknneaaDoorTk
set_option linter.unusedSimpArgs false
set_option linter.unusedVariables false
namespace Go.Proofs.YtoelekhkgknneaaDoor
open Go.RowKit

set_option maxHeartbeats 1000000 in
set_option maxRecDepth 20000 in
theorem r_sameIntsD (A B : Option Addr) (l : List Int) (c d : Nat) (w : World) (hl : l.length ≤ 100000) (hA : Rd zC 1 w A l) (hB : Rd zC 1 w B l) :
    Calls Tryd.prog 21 #[.slice A l.length c, .slice B l.length d] w fun e w' => e = .returned (.bool true) ∧ Below w.heap.size w w' := by
  go_enter Tryd.func21, Tryd.ntmps21
  go_wp2
  go_loopw [5] (fun i wr => ∃ k : Nat, k ≤ l.length ∧ i = .int .i64 k ∧ Below w.heap.size w wr) (fun i _ => l.length - (intOf i).toNat)
  case atStart => exact ⟨0, by omega, rfl, below_refl _⟩
  case round =>
    obtain ⟨k, hk, rfl, hbw⟩ := hrel
    by_cases hlt : k < l.length
    · obtain ⟨x, b, off, hx, rfl, hb, c0⟩ := rd_int (hA.on hbw) hlt
      obtain ⟨y, b', off', hy, rfl, hb', d0⟩ := rd_int (hB.on hbw) hlt
      obtain rfl : x = y := by rw [hx] at hy; exact Option.some.inj hy
      have k0 : (0 : Int) ≤ (k : Int) := Int.natCast_nonneg _
      have k1 : (k : Int) < (l.length : Int) := by omega
      clear hx hy
      go_wp2
      go_quiet (fail)
      go_wp2
      go_roundw
      case rel => exact ⟨k + 1, by omega, by go_num, below_drewN hbw _⟩
      case measure => simp [intOf]; omega
    · obtain rfl : k = l.length := by omega
      go_wp2
      go_ret
      exact ⟨rfl, hbw⟩

theorem pa_zero {s : ByteArray} (h : paE s.data.toList = 0) : fmV (paL s.data.toList) = s := by
  unfold paE at h
  unfold paL
  split at h
  · rename_i l hl
    obtain ⟨h1, h2⟩ := par_fm hl
    rw [hl]
    unfold fmV
    rw [show (some l).getD [] = l from rfl, if_pos h2]
    unfold fmS
    rw [h1]
  · cases h
theorem pa_fm {l : List Int} (h : vGu l = true) : paE (fmV l).data.toList = 0 ∧ paL (fmV l).data.toList = l := by
  have e : (fmV l).data.toList = fmL l := by unfold fmV; rw [if_pos h]; unfold fmS; simp
  rw [e]
  unfold paE paL
  rw [fm_par h]
  exact ⟨rfl, rfl⟩
theorem pa_len (s : ByteArray) : (paL s.data.toList).length ≤ s.size + 1 := by
  unfold paL
  cases h : parZ s.data.toList with
  | none => simp
  | some l =>
    unfold parZ at h
    split at h
    · cases h; simp
    · split at h
      · cases h
      · rename_i l' hl
        split at h
        · cases h
          have h1 := unWs_map hl
          have h2 := cutZ_len 32 s.data.toList
          have h3 := congrArg List.length h1
          rw [List.length_map] at h3
          have h4 : s.data.toList.length = s.size := by simp
          show l.length ≤ _
          omega
        · cases h
theorem fmV_size {l : List Int} : (fmV l).size ≤ 8000 := by
  unfold fmV
  split
  · rename_i h
    have h1 := fm_len (vgu_bd h)
    have h2 : (fmS l).size = (fmL l).length := by unfold fmS; simp [ByteArray.size]
    have h3 : l.length ≤ 2000 := by unfold vGu at h; rw [Bool.and_eq_true, decide_eq_true_eq] at h; exact h.2
    omega
  · decide
set_option maxHeartbeats 4000000 in
set_option maxRecDepth 20000 in
theorem l_WindTexts (A : Option Addr) (l : List Int) (c : Nat) (s : ByteArray) (w : World) (hl : l.length ≤ maxLen) (hs : s.size ≤ maxLen) (hL : LdW w) (hR : Rd zC 1 w A l) :
    Calls Tryd.prog 4 #[.slice A l.length c, .string s] w fun e w' => e = .returned (.bool true) ∧ Below w.heap.size w w' := by
  have HAW := Lib.hid l_awake
  have HM := Lib.hid (fun W => p_many A l c W hl)
  unfold maxLen at hs
  cases hm : manyB l
  rotate_left
  · rw [hm] at HM
    clear hm hl
    go_enter Tryd.func4, Tryd.ntmps4
    go_wp2_with fail
    refine (HAW.out _).mono ?_
    rintro e w1 ⟨rfl, hb1⟩
    go_wp2_with (go_at_call 16; ((with_reducible refine (HM.out _).mono ?_); rintro e w' ⟨rfl, rfl⟩))
    go_ret
    exact ⟨rfl, hb1⟩
  rw [hm] at HM
  have hl2 : l.length ≤ 2050 := by unfold manyB at hm; simp at hm; omega
  clear hm hl
  by_cases h3 : s.size ≤ 3000
  rotate_left
  · have g3 : (3000 : Int) < (s.size : Int) := by omega
    go_enter Tryd.func4, Tryd.ntmps4
    go_wp2_with fail
    refine (HAW.out _).mono ?_
    rintro e w1 ⟨rfl, hb1⟩
    go_wp2_with (go_at_call 16; ((with_reducible refine (HM.out _).mono ?_); rintro e w' ⟨rfl, rfl⟩))
    go_ret
    exact ⟨rfl, hb1⟩
  have g3 : ¬ (3000 : Int) < (s.size : Int) := by omega
  have HF1 := Lib.hid (fun W (hb : Below w.heap.size w W) => p_FormatV A l c W (by omega) (hL.on hb).tab (hR.on hb))
  have HF2 := Lib.hid (fun W (hb : Below w.heap.size w W) => r_FormatV A l c W (by omega) (hR.on hb))
  have HP1 := Lib.hid (fun W (hb : Below w.heap.size w W) => p_Parse s W (by omega) (hL.on hb))
  have HP2 := Lib.hid (fun W => r_Parse s W (by omega))
  have HPZ := Lib.hid (@pa_zero s)
  have hpl := pa_len s
  have HF3 := Lib.hid (fun W (hb : Below w.heap.size w W) (B : Option Addr) (d : Nat) (hr : Rd zC 1 W B (paL s.data.toList)) => p_FormatV B (paL s.data.toList) d W (by omega) (hL.on hb).tab hr)
  have HS1 := Lib.hid (fun W (B D : Option Addr) (b d : Nat) (hb : Rd zC 1 W B (paL s.data.toList)) (hd : Rd zC 1 W D (paL s.data.toList)) => r_sameIntsD B D (paL s.data.toList) b d W (by omega) hb hd)
  have HS2 := Lib.hid (fun W (B : Option Addr) (b : Nat) (hb : Rd zC 1 W B l) (hw : Below w.heap.size w W) => r_sameIntsD B A l b c W (by omega) hb (hR.on hw))
  have HVG := Lib.hid (fun (b : Bool) (h : vGu l = b) W (hb : Below w.heap.size w W) => r_ValidGustsV (c := c) (w := W) h (by omega) (hR.on hb))
  have HP3 := Lib.hid (fun W (hb : Below w.heap.size w W) => p_Parse (fmV l) W (by have := fmV_size (l := l); omega) (hL.on hb))
  have HPF := Lib.hid (@pa_fm l)
  have HEM := Lib.hid (fun (h : vGu l = false) => (show (fmV l).toList.isEmpty = true by unfold fmV; rw [if_neg (by rw [h]; simp)]; rw [ByteArray.toList_eq]; rfl))
  unfold PaP at HP1 HP2 HP3
  clear hs h3
  generalize paL s.data.toList = LA at *
  generalize paE s.data.toList = EA at *
  generalize paL (fmV l).data.toList = LB at *
  generalize paE (fmV l).data.toList = EB at *
  have hLA : LA.length ≤ 100000 := by omega
  cases hv : vGu l
  · have HV := Lib.hid (HVG.out false hv)
    have hem := HEM.out hv
    clear hv HVG HEM HP3 HPF
    generalize fmV l = TS at *
    by_cases hE : EA = 0
    · have hpz := HPZ.out hE
      subst hE
      rw [hpz] at HF3
      clear hpz HPZ
      go_enter Tryd.func4, Tryd.ntmps4
      go_wp2_with fail
      refine (HAW.out _).mono ?_
      rintro e w1 ⟨rfl, hb1⟩
      go_wp2_with (go_at_call 16; ((with_reducible refine (HM.out _).mono ?_); rintro e w' ⟨rfl, rfl⟩))
      refine (HF1.out _ hb1).mono ?_
      rintro e w2 ⟨rfl, hb2⟩
      have B2 := below_tr hb1 hb2
      go_wp2_with fail
      refine (HP1.out _ B2).mono ?_
      rintro e w3 ⟨A3, c3, rfl, hr3, hb3⟩
      have B3 := below_tr B2 hb3
      go_wp2_with fail
      refine (HP2.out _).mono ?_
      rintro e w4 ⟨A4, c4, rfl, hr4, hb4⟩
      have B4 := below_tr B3 hb4
      have hr34 := hr3.on hb4
      go_wp2_with fail
      refine (HF2.out _ B4).mono ?_
      rintro e w5 ⟨rfl, hb5⟩
      have B5 := below_tr B4 hb5
      have HSS := Lib.hid (HS1.out w5 A3 A4 c3 c4 (hr34.on hb5) (hr4.on hb5))
      have hr35 := hr34.on hb5
      go_wp2_with fail
      refine HSS.out.mono ?_
      rintro e w6 ⟨rfl, hb6⟩
      have B6 := below_tr B5 hb6
      have HFF := Lib.hid (HF3.out w6 B6 A3 c3 (hr35.on hb6))
      go_wp2_with fail
      refine HFF.out.mono ?_
      rintro e w7 ⟨rfl, hb7⟩
      have B7 := below_tr B6 hb7
      go_wp2_with (go_at_call 22; ((with_reducible refine (HV.out _ B7).mono ?_); rintro e w' ⟨rfl, rfl⟩))
      go_ret
      exact ⟨ret_bool (by simp), B7⟩
    · have hEB : (EA == 0) = false := beq_eq_false_iff_ne.2 hE
      clear HPZ HF3 hE
      go_enter Tryd.func4, Tryd.ntmps4
      go_wp2_with fail
      refine (HAW.out _).mono ?_
      rintro e w1 ⟨rfl, hb1⟩
      go_wp2_with (go_at_call 16; ((with_reducible refine (HM.out _).mono ?_); rintro e w' ⟨rfl, rfl⟩))
      refine (HF1.out _ hb1).mono ?_
      rintro e w2 ⟨rfl, hb2⟩
      have B2 := below_tr hb1 hb2
      go_wp2_with fail
      refine (HP1.out _ B2).mono ?_
      rintro e w3 ⟨A3, c3, rfl, hr3, hb3⟩
      have B3 := below_tr B2 hb3
      go_wp2_with fail
      refine (HP2.out _).mono ?_
      rintro e w4 ⟨A4, c4, rfl, hr4, hb4⟩
      have B4 := below_tr B3 hb4
      have hr34 := hr3.on hb4
      go_wp2_with fail
      refine (HF2.out _ B4).mono ?_
      rintro e w5 ⟨rfl, hb5⟩
      have B5 := below_tr B4 hb5
      have HSS := Lib.hid (HS1.out w5 A3 A4 c3 c4 (hr34.on hb5) (hr4.on hb5))
      have hr35 := hr34.on hb5
      go_wp2_with fail
      refine HSS.out.mono ?_
      rintro e w6 ⟨rfl, hb6⟩
      have B6 := below_tr B5 hb6
      go_wp2_with (go_at_call 22; ((with_reducible refine (HV.out _ B6).mono ?_); rintro e w' ⟨rfl, rfl⟩))
      go_ret
      exact ⟨ret_bool (by simp), B6⟩
  · have HV := Lib.hid (HVG.out true hv)
    obtain ⟨q1, q2⟩ := HPF.out hv
    rw [q1, q2] at HP3
    clear hv HVG HEM HPF q1 q2
    clear EB LB
    generalize fmV l = TS at *
    by_cases hE : EA = 0
    · have hpz := HPZ.out hE
      subst hE
      rw [hpz] at HF3
      clear hpz HPZ
      go_enter Tryd.func4, Tryd.ntmps4
      go_wp2_with fail
      refine (HAW.out _).mono ?_
      rintro e w1 ⟨rfl, hb1⟩
      go_wp2_with (go_at_call 16; ((with_reducible refine (HM.out _).mono ?_); rintro e w' ⟨rfl, rfl⟩))
      refine (HF1.out _ hb1).mono ?_
      rintro e w2 ⟨rfl, hb2⟩
      have B2 := below_tr hb1 hb2
      go_wp2_with fail
      refine (HP1.out _ B2).mono ?_
      rintro e w3 ⟨A3, c3, rfl, hr3, hb3⟩
      have B3 := below_tr B2 hb3
      go_wp2_with fail
      refine (HP2.out _).mono ?_
      rintro e w4 ⟨A4, c4, rfl, hr4, hb4⟩
      have B4 := below_tr B3 hb4
      have hr34 := hr3.on hb4
      go_wp2_with fail
      refine (HF2.out _ B4).mono ?_
      rintro e w5 ⟨rfl, hb5⟩
      have B5 := below_tr B4 hb5
      have HSS := Lib.hid (HS1.out w5 A3 A4 c3 c4 (hr34.on hb5) (hr4.on hb5))
      have hr35 := hr34.on hb5
      go_wp2_with fail
      refine HSS.out.mono ?_
      rintro e w6 ⟨rfl, hb6⟩
      have B6 := below_tr B5 hb6
      have HFF := Lib.hid (HF3.out w6 B6 A3 c3 (hr35.on hb6))
      go_wp2_with fail
      refine HFF.out.mono ?_
      rintro e w7 ⟨rfl, hb7⟩
      have B7 := below_tr B6 hb7
      go_wp2_with (go_at_call 22; ((with_reducible refine (HV.out _ B7).mono ?_); rintro e w' ⟨rfl, rfl⟩))
      refine (HP3.out _ B7).mono ?_
      rintro e w8 ⟨A8, c8, rfl, hr8, hb8⟩
      have B8 := below_tr B7 hb8
      go_wp2_with (go_at_call 21; ((with_reducible refine (HS2.out _ _ _ hr8 B8).mono ?_); rintro e w9 ⟨rfl, hb9⟩))
      go_ret
      exact ⟨rfl, below_tr B8 hb9⟩
    · have hEB : (EA == 0) = false := beq_eq_false_iff_ne.2 hE
      clear HPZ HF3 hE
      go_enter Tryd.func4, Tryd.ntmps4
      go_wp2_with fail
      refine (HAW.out _).mono ?_
      rintro e w1 ⟨rfl, hb1⟩
      go_wp2_with (go_at_call 16; ((with_reducible refine (HM.out _).mono ?_); rintro e w' ⟨rfl, rfl⟩))
      refine (HF1.out _ hb1).mono ?_
      rintro e w2 ⟨rfl, hb2⟩
      have B2 := below_tr hb1 hb2
      go_wp2_with fail
      refine (HP1.out _ B2).mono ?_
      rintro e w3 ⟨A3, c3, rfl, hr3, hb3⟩
      have B3 := below_tr B2 hb3
      go_wp2_with fail
      refine (HP2.out _).mono ?_
      rintro e w4 ⟨A4, c4, rfl, hr4, hb4⟩
      have B4 := below_tr B3 hb4
      have hr34 := hr3.on hb4
      go_wp2_with fail
      refine (HF2.out _ B4).mono ?_
      rintro e w5 ⟨rfl, hb5⟩
      have B5 := below_tr B4 hb5
      have HSS := Lib.hid (HS1.out w5 A3 A4 c3 c4 (hr34.on hb5) (hr4.on hb5))
      have hr35 := hr34.on hb5
      go_wp2_with fail
      refine HSS.out.mono ?_
      rintro e w6 ⟨rfl, hb6⟩
      have B6 := below_tr B5 hb6
      go_wp2_with (go_at_call 22; ((with_reducible refine (HV.out _ B6).mono ?_); rintro e w' ⟨rfl, rfl⟩))
      refine (HP3.out _ B6).mono ?_
      rintro e w8 ⟨A8, c8, rfl, hr8, hb8⟩
      have B8 := below_tr B6 hb8
      go_wp2_with (go_at_call 21; ((with_reducible refine (HS2.out _ _ _ hr8 B8).mono ?_); rintro e w9 ⟨rfl, hb9⟩))
      go_ret
      exact ⟨rfl, below_tr B8 hb9⟩
end Go.Proofs.YtoelekhkgknneaaDoor
