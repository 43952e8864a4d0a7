/- Wind cards: windows by the reference. -/
import Derived.Test.YtkigdjfagcnejaaDoorDv
set_option linter.unusedSimpArgs false
set_option linter.unusedVariables false
namespace Go.Proofs.YtkigdjfagcnejaaDoor
open Go.RowKit

theorem wdE_r (c : List Ca) (mk n fr tu : Int) : wdE c mk n fr tu = if vCa c = true then (if wn mk 1 200 = true ∧ wn n 1 10000 = true ∧ wn tu 0 100000 = true ∧ wn fr 0 tu = true then 0 else 7) else 1 := by
  unfold wdE
  by_cases h : vCa c = true
  · rw [if_pos h, if_pos h]
    by_cases h1 : wn mk 1 200 = true ∧ wn n 1 10000 = true ∧ wn fr 0 tu = true ∧ tu ≤ 100000
    · rw [if_pos h1, if_pos ⟨h1.1, h1.2.1, wn_iff.2 ⟨by have := wn_iff.1 h1.2.2.1; omega, h1.2.2.2⟩, h1.2.2.1⟩]
    · rw [if_neg h1, if_neg (fun h2 => h1 ⟨h2.1, h2.2.1, h2.2.2.2, (wn_iff.1 h2.2.2.1).2⟩)]
  · rw [if_neg h, if_neg h]
theorem sf_no {q : Option Ca → Bool} {c : List Ca} {mk n fr tu x : Int} (h : wdE c mk n fr tu = x) (hx : x ≠ 0) : sfI q c mk n fr tu = 0 ∧ sfE q c mk n fr tu = x := by
  unfold sfI sfE
  rw [h, if_neg hx, if_neg hx]
  exact ⟨rfl, rfl⟩
set_option maxHeartbeats 4000000 in
set_option maxRecDepth 20000 in
theorem r_window (A : Option Addr) (l : List Ca) (c : Nat) (mk n fr tu : Int) (b : Bool) (w : World) (hl : l.length ≤ 100000) (hR : Rd Ca.cs 4 w A l) :
    Calls Tryd.prog 63 #[.slice A l.length c, .int .i64 mk, .int .i64 n, .int .i64 fr, .int .i64 tu, .bool b] w fun e w' => e = .returned (.tuple #[.int .i64 (sfI (qS b mk) l mk n fr tu), .int .i64 (sfE (qS b mk) l mk n fr tu)]) ∧ Below w.heap.size w w' := by
  have H1 := Lib.hid (fun b (h : vCa l = b) => r_ValidCastsV (c := c) h hl hR)
  have hE := wdE_r l mk n fr tu
  cases h : vCa l
  · rw [if_neg (by simp [h])] at hE
    obtain ⟨e1, e2⟩ := sf_no (q := qS b mk) hE (by decide)
    have E1 := Lib.hid e1
    have E2 := Lib.hid e2
    clear e1 e2 hE hR
    go_enter Tryd.func63, Tryd.ntmps63
    go_wp2_with (go_at_call 22; ((with_reducible refine (H1.out _ h).mono ?_); rintro e w1 ⟨rfl, hb1⟩; obtain ⟨hc1, hf1⟩ := bcell hb1; have hz1 := hb1.size; (try simp [sz_drew, sz_drewN] at hz1); (try simp only [sz_drew, sz_drewN] at hc1 hf1)))
    go_ret2
    exact ⟨by rw [E1.out, E2.out]; rfl, hb1⟩
  rw [if_pos h] at hE
  cases h1 : wn mk 1 200
  · rw [if_neg (by simp [h1])] at hE
    obtain ⟨e1, e2⟩ := sf_no (q := qS b mk) hE (by decide)
    have E1 := Lib.hid e1
    have E2 := Lib.hid e2
    clear e1 e2 hE hR
    go_enter Tryd.func63, Tryd.ntmps63
    go_wp2_with (first | (go_at_call 22; ((with_reducible refine (H1.out _ h).mono ?_); rintro e w1 ⟨rfl, hb1⟩; obtain ⟨hc1, hf1⟩ := bcell hb1; have hz1 := hb1.size; (try simp [sz_drew, sz_drewN] at hz1); (try simp only [sz_drew, sz_drewN] at hc1 hf1))) | (go_at_call 54; ((with_reducible refine (r_withinV h1 _).mono ?_); rintro e w' ⟨rfl, rfl⟩)))
    go_ret2
    exact ⟨by rw [E1.out, E2.out]; rfl, hb1⟩
  cases h2 : wn n 1 10000
  · rw [if_neg (by simp [h2])] at hE
    obtain ⟨e1, e2⟩ := sf_no (q := qS b mk) hE (by decide)
    have E1 := Lib.hid e1
    have E2 := Lib.hid e2
    clear e1 e2 hE hR
    go_enter Tryd.func63, Tryd.ntmps63
    go_wp2_with (first | (go_at_call 22; ((with_reducible refine (H1.out _ h).mono ?_); rintro e w1 ⟨rfl, hb1⟩; obtain ⟨hc1, hf1⟩ := bcell hb1; have hz1 := hb1.size; (try simp [sz_drew, sz_drewN] at hz1); (try simp only [sz_drew, sz_drewN] at hc1 hf1))) | (go_at_call 54; ((with_reducible refine (r_withinV h1 _).mono ?_); rintro e w' ⟨rfl, rfl⟩)) | (go_at_call 54; ((with_reducible refine (r_withinV h2 _).mono ?_); rintro e w' ⟨rfl, rfl⟩)))
    go_ret2
    exact ⟨by rw [E1.out, E2.out]; rfl, hb1⟩
  cases h3 : wn tu 0 100000
  · rw [if_neg (by simp [h3])] at hE
    obtain ⟨e1, e2⟩ := sf_no (q := qS b mk) hE (by decide)
    have E1 := Lib.hid e1
    have E2 := Lib.hid e2
    clear e1 e2 hE hR
    go_enter Tryd.func63, Tryd.ntmps63
    go_wp2_with (first | (go_at_call 22; ((with_reducible refine (H1.out _ h).mono ?_); rintro e w1 ⟨rfl, hb1⟩; obtain ⟨hc1, hf1⟩ := bcell hb1; have hz1 := hb1.size; (try simp [sz_drew, sz_drewN] at hz1); (try simp only [sz_drew, sz_drewN] at hc1 hf1))) | (go_at_call 54; ((with_reducible refine (r_withinV h1 _).mono ?_); rintro e w' ⟨rfl, rfl⟩)) | (go_at_call 54; ((with_reducible refine (r_withinV h2 _).mono ?_); rintro e w' ⟨rfl, rfl⟩)) | (go_at_call 54; ((with_reducible refine (r_withinV h3 _).mono ?_); rintro e w' ⟨rfl, rfl⟩)))
    go_ret2
    exact ⟨by rw [E1.out, E2.out]; rfl, hb1⟩
  cases h4 : wn fr 0 tu
  · rw [if_neg (by simp [h4])] at hE
    obtain ⟨e1, e2⟩ := sf_no (q := qS b mk) hE (by decide)
    have E1 := Lib.hid e1
    have E2 := Lib.hid e2
    clear e1 e2 hE hR
    go_enter Tryd.func63, Tryd.ntmps63
    go_wp2_with (first | (go_at_call 22; ((with_reducible refine (H1.out _ h).mono ?_); rintro e w1 ⟨rfl, hb1⟩; obtain ⟨hc1, hf1⟩ := bcell hb1; have hz1 := hb1.size; (try simp [sz_drew, sz_drewN] at hz1); (try simp only [sz_drew, sz_drewN] at hc1 hf1))) | (go_at_call 54; ((with_reducible refine (r_withinV h1 _).mono ?_); rintro e w' ⟨rfl, rfl⟩)) | (go_at_call 54; ((with_reducible refine (r_withinV h2 _).mono ?_); rintro e w' ⟨rfl, rfl⟩)) | (go_at_call 54; ((with_reducible refine (r_withinV h3 _).mono ?_); rintro e w' ⟨rfl, rfl⟩)) | (go_at_call 54; ((with_reducible refine (r_withinV h4 _).mono ?_); rintro e w' ⟨rfl, rfl⟩)))
    go_ret2
    exact ⟨by rw [E1.out, E2.out]; rfl, hb1⟩
  rw [if_pos ⟨h1, h2, h3, h4⟩] at hE
  have HSE := Lib.hid (show sfE (qS b mk) l mk n fr tu = winE (fun t => qS b mk (ctO l t)) n fr tu by unfold sfE; rw [if_pos hE])
  have HSI := Lib.hid (show sfI (qS b mk) l mk n fr tu = winI (fun t => qS b mk (ctO l t)) n fr tu by unfold sfI; rw [if_pos hE])
  have HF := Lib.hid (fun W t (hb : Below w.heap.size w W) => r_fine A l c t mk b W hl h (hR.on hb))
  obtain ⟨n0, n1⟩ := wn_iff.1 h2
  obtain ⟨t0, t1⟩ := wn_iff.1 h3
  obtain ⟨f0, f1⟩ := wn_iff.1 h4
  have HWE := Lib.hid (show winE (fun t => qS b mk (ctO l t)) n fr tu = (match winO (fun t => qS b mk (ctO l t)) n fr tu with | some _ => 0 | none => 8) from rfl)
  have HWI := Lib.hid (show winI (fun t => qS b mk (ctO l t)) n fr tu = (match winO (fun t => qS b mk (ctO l t)) n fr tu with | some k => bgS (fun t => qS b mk (ctO l t)) fr k | none => 0) from rfl)
  have HWO := Lib.hid (show winO (fun t => qS b mk (ctO l t)) n fr tu = (List.range (tu - fr).toNat).find? (hitB (fun t => qS b mk (ctO l t)) n fr) from rfl)
  have HBG := Lib.hid (bgS_bd (fun t => qS b mk (ctO l t)) fr)
  have HBS := Lib.hid (fun k : Nat => show bgS (fun t => qS b mk (ctO l t)) fr (k + 1) = if qS b mk (ctO l (fr + k)) = true then bgS (fun t => qS b mk (ctO l t)) fr k else fr + k + 1 from rfl)
  have HHB := Lib.hid (fun k : Nat => show hitB (fun t => qS b mk (ctO l t)) n fr k = (qS b mk (ctO l (fr + k)) && decide (fr + k + 1 - bgS (fun t => qS b mk (ctO l t)) fr k = n)) from rfl)
  clear hE hR
  go_enter Tryd.func63, Tryd.ntmps63
  go_wp2_with (first | (go_at_call 22; ((with_reducible refine (H1.out _ h).mono ?_); rintro e w1 ⟨rfl, hb1⟩; obtain ⟨hc1, hf1⟩ := bcell hb1; have hz1 := hb1.size; (try simp [sz_drew, sz_drewN] at hz1); (try simp only [sz_drew, sz_drewN] at hc1 hf1))) | (go_at_call 54; ((with_reducible refine (r_withinV h1 _).mono ?_); rintro e w' ⟨rfl, rfl⟩)) | (go_at_call 54; ((with_reducible refine (r_withinV h2 _).mono ?_); rintro e w' ⟨rfl, rfl⟩)) | (go_at_call 54; ((with_reducible refine (r_withinV h3 _).mono ?_); rintro e w' ⟨rfl, rfl⟩)) | (go_at_call 54; ((with_reducible refine (r_withinV h4 _).mono ?_); rintro e w' ⟨rfl, rfl⟩)))
  go_loopw [14, 15] (fun row t wr => ∃ m : Nat, fr + m ≤ tu ∧ row = .int .i64 (fr + m - bgS (fun t => qS b mk (ctO l t)) fr m) ∧ t = .int .i64 (fr + m) ∧ Below w.heap.size w wr ∧ Hid (∀ i, i < m → hitB (fun t => qS b mk (ctO l t)) n fr i = false)) (fun _ t _ => (tu - intOf t).toNat)
  case atStart => exact ⟨0, by omega, by simp [bgS], by simp, hb1, Lib.hid (fun i hi => by omega)⟩
  case round =>
    clear hb1 hc1 hf1 hz1 h h1 h2 h3 h4 H1
    obtain ⟨m, hm, rfl, rfl, hbw, HI⟩ := hrel
    have m0 : (0 : Int) ≤ (m : Int) := Int.natCast_nonneg _
    obtain ⟨b0, b1, _⟩ := HBG.out m
    by_cases hlt : fr + m < tu
    · have HC := Lib.hid (HF.out wr (fr + m) hbw)
      cases hq : qS b mk (ctO l (fr + m))
      · have HB2 := Lib.hid (show bgS (fun t => qS b mk (ctO l t)) fr (m + 1) = fr + m + 1 by rw [HBS.out, hq]; rfl)
        have HH2 := Lib.hid (show hitB (fun t => qS b mk (ctO l t)) n fr m = false by rw [HHB.out, hq]; rfl)
        rw [hq] at HC
        clear hq
        go_wp2_with (go_at_call 85; ((with_reducible refine (HC.out).mono ?_); rintro e w2 ⟨rfl, hb2⟩; obtain ⟨hc2, hf2⟩ := bcell hb2; have hz2 := hb2.size; (try simp [sz_drew, sz_drewN] at hz2); (try simp only [sz_drew, sz_drewN] at hc2 hf2)))
        go_roundw
        case rel => exact ⟨m + 1, by omega, int_eq (by rw [HB2.out]; omega), int_eq (by omega), below_tr hbw hb2, Lib.hid (fun i hi => by
          by_cases him : i = m
          · subst him; exact HH2.out
          · exact HI.out i (by omega))⟩
        case measure => simp [intOf]; omega
      · have HB2 := Lib.hid (show bgS (fun t => qS b mk (ctO l t)) fr (m + 1) = bgS (fun t => qS b mk (ctO l t)) fr m by rw [HBS.out, hq]; rfl)
        have HHIT := Lib.hid (show hitB (fun t => qS b mk (ctO l t)) n fr m = decide (fr + m + 1 - bgS (fun t => qS b mk (ctO l t)) fr m = n) by rw [HHB.out, hq]; rfl)
        rw [hq] at HC
        clear hq
        by_cases hn3 : fr + m + 1 - bgS (fun t => qS b mk (ctO l t)) fr m = n
        · have HW := Lib.hid (show winO (fun t => qS b mk (ctO l t)) n fr tu = some m by rw [HWO.out]; exact find_range_some (by omega) (by rw [HHIT.out]; exact decide_eq_true hn3) HI.out)
          have HE := Lib.hid (show winE (fun t => qS b mk (ctO l t)) n fr tu = 0 by rw [HWE.out, HW.out])
          have HII := Lib.hid (show winI (fun t => qS b mk (ctO l t)) n fr tu = fr + m + 1 - n by rw [HWI.out, HW.out]; dsimp only; omega)
          generalize bgS (fun t => qS b mk (ctO l t)) fr m = BG at *
          have hw1 : IntKind.i64.wrap (fr + (m : Int) - BG + 1) = n := by rw [show fr + (m : Int) - BG + 1 = n by omega]; exact fits_wrap (by omega)
          have hw2 : IntKind.i64.wrap (fr + (m : Int) + 1) = fr + (m : Int) + 1 := fits_wrap (by omega)
          have hw3 : IntKind.i64.wrap (fr + (m : Int) + 1 - n) = fr + (m : Int) + 1 - n := fits_wrap (by omega)
          clear hn3
          go_wp2_with (go_at_call 85; ((with_reducible refine (HC.out).mono ?_); rintro e w2 ⟨rfl, hb2⟩; obtain ⟨hc2, hf2⟩ := bcell hb2; have hz2 := hb2.size; (try simp [sz_drew, sz_drewN] at hz2); (try simp only [sz_drew, sz_drewN] at hc2 hf2)))
          go_ret2
          exact ⟨by rw [HSE.out, HSI.out, HE.out, HII.out]; rfl, below_tr hbw hb2⟩
        · have HH2 := Lib.hid (show hitB (fun t => qS b mk (ctO l t)) n fr m = false by rw [HHIT.out]; exact decide_eq_false hn3)
          generalize hBG : bgS (fun t => qS b mk (ctO l t)) fr m = BG at *
          clear hBG
          have hw1 : IntKind.i64.wrap (fr + (m : Int) - BG + 1) = fr + (m : Int) - BG + 1 := fits_wrap (by omega)
          have hn4 : (fr + (m : Int) - BG + 1 == n) = false := by simp; omega
          go_wp2_with (go_at_call 85; ((with_reducible refine (HC.out).mono ?_); rintro e w2 ⟨rfl, hb2⟩; obtain ⟨hc2, hf2⟩ := bcell hb2; have hz2 := hb2.size; (try simp [sz_drew, sz_drewN] at hz2); (try simp only [sz_drew, sz_drewN] at hc2 hf2)))
          go_roundw
          case rel => exact ⟨m + 1, by omega, int_eq (by rw [HB2.out]; omega), int_eq (by omega), below_tr hbw hb2, Lib.hid (fun i hi => by
            by_cases him : i = m
            · subst him; exact HH2.out
            · exact HI.out i (by omega))⟩
          case measure => simp [intOf]; omega
    · have HW := Lib.hid (show winO (fun t => qS b mk (ctO l t)) n fr tu = none by rw [HWO.out]; exact find_range_none (fun k hk => HI.out k (by omega)))
      have HE := Lib.hid (show winE (fun t => qS b mk (ctO l t)) n fr tu = 8 by rw [HWE.out, HW.out])
      have HII := Lib.hid (show winI (fun t => qS b mk (ctO l t)) n fr tu = 0 by rw [HWI.out, HW.out])
      generalize fr + (m : Int) - bgS (fun t => qS b mk (ctO l t)) fr m = BG at *
      go_wp2
      go_ret2
      exact ⟨by rw [HSE.out, HSI.out, HE.out, HII.out]; rfl, hbw⟩
theorem r_Sure (A : Option Addr) (l : List Ca) (c : Nat) (mk n fr tu : Int) (w : World) (hl : l.length ≤ 100000) (hR : Rd Ca.cs 4 w A l) :
    Calls Tryd.prog 20 #[.slice A l.length c, .int .i64 mk, .int .i64 n, .int .i64 fr, .int .i64 tu] w fun e w' => e = .returned (.tuple #[.int .i64 (sfI (suQ mk) l mk n fr tu), .int .i64 (sfE (suQ mk) l mk n fr tu)]) ∧ Below w.heap.size w w' := by
  have H1 := Lib.hid (r_window A l c mk n fr tu true w hl hR)
  have HQ := Lib.hid (show qS true mk = suQ mk from rfl)
  rw [HQ.out] at H1
  generalize sfI (suQ mk) l mk n fr tu = I at *
  generalize sfE (suQ mk) l mk n fr tu = E at *
  clear hR
  go_enter Tryd.func20, Tryd.ntmps20
  go_wp2_with (go_at_call 63; ((with_reducible refine (H1.out).mono ?_); rintro e w1 ⟨rfl, hb1⟩; obtain ⟨hc1, hf1⟩ := bcell hb1; have hz1 := hb1.size; (try simp [sz_drew, sz_drewN] at hz1); (try simp only [sz_drew, sz_drewN] at hc1 hf1)))
  go_ret2
  exact ⟨rfl, hb1⟩
theorem r_Maybe (A : Option Addr) (l : List Ca) (c : Nat) (mk n fr tu : Int) (w : World) (hl : l.length ≤ 100000) (hR : Rd Ca.cs 4 w A l) :
    Calls Tryd.prog 24 #[.slice A l.length c, .int .i64 mk, .int .i64 n, .int .i64 fr, .int .i64 tu] w fun e w' => e = .returned (.tuple #[.int .i64 (sfI (maQ mk) l mk n fr tu), .int .i64 (sfE (maQ mk) l mk n fr tu)]) ∧ Below w.heap.size w w' := by
  have H1 := Lib.hid (r_window A l c mk n fr tu false w hl hR)
  have HQ := Lib.hid (show qS false mk = maQ mk from rfl)
  rw [HQ.out] at H1
  generalize sfI (maQ mk) l mk n fr tu = I at *
  generalize sfE (maQ mk) l mk n fr tu = E at *
  clear hR
  go_enter Tryd.func24, Tryd.ntmps24
  go_wp2_with (go_at_call 63; ((with_reducible refine (H1.out).mono ?_); rintro e w1 ⟨rfl, hb1⟩; obtain ⟨hc1, hf1⟩ := bcell hb1; have hz1 := hb1.size; (try simp [sz_drew, sz_drewN] at hz1); (try simp only [sz_drew, sz_drewN] at hc1 hf1)))
  go_ret2
  exact ⟨rfl, hb1⟩
end Go.Proofs.YtkigdjfagcnejaaDoor
