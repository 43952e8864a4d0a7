/- Fell: Clear by the reference. -/
import Derived.Test.YtkeojokbpjdhpaaFzj
set_option linter.unusedSimpArgs false
set_option linter.unusedVariables false
namespace Go.Proofs.Ytkeojokbpjdhpaa
open Go.RowKit

set_option maxHeartbeats 2000000 in
set_option maxRecDepth 20000 in
theorem r_Clear (f : Sp) (r d : Int) (A : Option Addr) (l : List Sp) (c : Nat) (B : Option Addr) (ways : List Sp) (c' : Nat) (w : World) (hl : l.length ≤ 100000) (hw : ways.length ≤ 100000) (hR : Rd Sp.cs 2 w A l) (hS : Rd Sp.cs 2 w B ways) :
    Calls Try.prog 28 #[spV f, .int .i64 r, .int .i64 d, .slice A l.length c, .slice B ways.length c'] w (ClP f r d l ways w) := by
  have HF := Lib.hid (fun b (h : isS f = b) W => r_IsSpotV h W)
  have HZ := Lib.hid (fun b (h : wn r 1 20000 = b) W => r_withinV h W)
  have HZ2 := Lib.hid (fun b (h : wn d 0 1000 = b) W => r_withinV h W)
  have HT1 := Lib.hid (fun b (h : thB l = b) W (hb : Below w.heap.size w W) => r_listedV (d := c) h hl (hR.on hb))
  have HT2 := Lib.hid (fun b (h : thB ways = b) W (hb : Below w.heap.size w W) => r_listedV (d := c') h hw (hS.on hb))
  have H7 := Lib.hid (fun (h : ckB f r d l ways = false) => cl_seven h)
  have x5 := Blk.new w 24 (spA f)
  have B0 := bl_alloc (below_refl w) (.cells (spA f) 24)
  unfold ClP
  cases h1 : isS f
  · have HE := Lib.hid (H7.out (by unfold ckB; rw [h1]; rfl))
    have Q1 := Lib.hid (HF.out _ h1)
    clear h1 HF HZ HZ2 HT1 HT2 H7
    go_enter Try.func28, Try.ntmps28
    go_wp2_with fail
    refine (Q1.out _).mono ?_
    rintro e w1 ⟨rfl, hb1⟩
    have B1 := below_tr B0 hb1
    have y5 := x5.below hb1 x5.lt
    clear hb1 x5 B0
    go_wp2
    go_ret2
    exact ⟨by rw [HE.out.1, HE.out.2]; rfl, B1⟩
  have Q1 := Lib.hid (HF.out _ h1)
  cases h2 : wn r 1 20000
  · have HE := Lib.hid (H7.out (by unfold ckB; rw [h1, h2]; rfl))
    have Q2 := Lib.hid (HZ.out _ h2)
    clear h1 h2 HF HZ HZ2 HT1 HT2 H7
    go_enter Try.func28, Try.ntmps28
    go_wp2_with fail
    refine (Q1.out _).mono ?_
    rintro e w1 ⟨rfl, hb1⟩
    have B1 := below_tr B0 hb1
    have y5 := x5.below hb1 x5.lt
    clear hb1 x5 B0
    go_wp2_with (go_at_call 54; ((with_reducible refine (Q2.out _).mono ?_); rintro e w' ⟨rfl, rfl⟩))
    go_ret2
    exact ⟨by rw [HE.out.1, HE.out.2]; rfl, B1⟩
  have Q2 := Lib.hid (HZ.out _ h2)
  cases h2b : wn d 0 1000
  · have HE := Lib.hid (H7.out (by unfold ckB; rw [h1, h2, h2b]; rfl))
    have Q2b := Lib.hid (HZ2.out _ h2b)
    clear h1 h2 h2b HF HZ HZ2 HT1 HT2 H7
    go_enter Try.func28, Try.ntmps28
    go_wp2_with fail
    refine (Q1.out _).mono ?_
    rintro e w1 ⟨rfl, hb1⟩
    have B1 := below_tr B0 hb1
    have y5 := x5.below hb1 x5.lt
    clear hb1 x5 B0
    go_wp2_with (first | (go_at_call 54; ((with_reducible refine (Q2.out _).mono ?_); rintro e w' ⟨rfl, rfl⟩)) | (go_at_call 54; ((with_reducible refine (Q2b.out _).mono ?_); rintro e w' ⟨rfl, rfl⟩)))
    go_ret2
    exact ⟨by rw [HE.out.1, HE.out.2]; rfl, B1⟩
  have Q2b := Lib.hid (HZ2.out _ h2b)
  cases h3 : thB l
  · have HE := Lib.hid (H7.out (by unfold ckB; rw [h1, h2, h2b, h3]; rfl))
    have Q3 := Lib.hid (HT1.out _ h3)
    clear h1 h2 h2b h3 HF HZ HZ2 HT1 HT2 H7
    go_enter Try.func28, Try.ntmps28
    go_wp2_with fail
    refine (Q1.out _).mono ?_
    rintro e w1 ⟨rfl, hb1⟩
    have B1 := below_tr B0 hb1
    have y5 := x5.below hb1 x5.lt
    clear hb1 x5 B0
    go_wp2_with (first | (go_at_call 54; ((with_reducible refine (Q2.out _).mono ?_); rintro e w' ⟨rfl, rfl⟩)) | (go_at_call 54; ((with_reducible refine (Q2b.out _).mono ?_); rintro e w' ⟨rfl, rfl⟩)))
    refine (Q3.out _ B1).mono ?_
    rintro e w2 ⟨rfl, hb2⟩
    have B2 := below_tr B1 hb2
    have v5 := y5.below hb2 y5.lt
    clear y5
    go_wp2
    go_ret2
    exact ⟨by rw [HE.out.1, HE.out.2]; rfl, B2⟩
  have Q3 := Lib.hid (HT1.out _ h3)
  cases h4 : thB ways
  · have HE := Lib.hid (H7.out (by unfold ckB; rw [h1, h2, h2b, h3, h4]; rfl))
    have Q4 := Lib.hid (HT2.out _ h4)
    clear h1 h2 h2b h3 h4 HF HZ HZ2 HT1 HT2 H7
    go_enter Try.func28, Try.ntmps28
    go_wp2_with fail
    refine (Q1.out _).mono ?_
    rintro e w1 ⟨rfl, hb1⟩
    have B1 := below_tr B0 hb1
    have y5 := x5.below hb1 x5.lt
    clear hb1 x5 B0
    go_wp2_with (first | (go_at_call 54; ((with_reducible refine (Q2.out _).mono ?_); rintro e w' ⟨rfl, rfl⟩)) | (go_at_call 54; ((with_reducible refine (Q2b.out _).mono ?_); rintro e w' ⟨rfl, rfl⟩)))
    refine (Q3.out _ B1).mono ?_
    rintro e w2 ⟨rfl, hb2⟩
    have B2 := below_tr B1 hb2
    have v5 := y5.below hb2 y5.lt
    clear y5
    go_wp2_with fail
    refine (Q4.out _ B2).mono ?_
    rintro e w3 ⟨rfl, hb3⟩
    have B3 := below_tr B2 hb3
    go_wp2
    go_ret2
    exact ⟨by rw [HE.out.1, HE.out.2]; rfl, B3⟩
  have Q4 := Lib.hid (HT2.out _ h4)
  have hck : ckB f r d l ways = true := by unfold ckB; rw [h1, h2, h2b, h3, h4]; rfl
  have HK := Lib.hid hck
  have H3 := Lib.hid h3
  clear h1 h2 h2b h3 h4 HF HZ HZ2 HT1 HT2 H7 hck
  have HHIT := Lib.hid (fun x (hv : vZn ⟨f, x, r, d⟩ = true) W (hb : Below w.heap.size w W) => r_hit ⟨f, x, r, d⟩ A l c W (vzn_bd hv) (vzn hv).2.2.2.2.2.1 (vzn hv).2.2.2.2.2.2 hl (thB_bd H3.out) (hR.on hb))
  have HCW := Lib.hid (fun x => (show cwP f r d l x = (vZn ⟨f, x, r, d⟩ && decide ((fN (htP ⟨f, x, r, d⟩ l) l.length).length = 0)) from rfl))
  go_enter Try.func28, Try.ntmps28
  go_wp2_with fail
  refine (Q1.out _).mono ?_
  rintro e w1 ⟨rfl, hb1⟩
  have B1 := below_tr B0 hb1
  have y5 := x5.below hb1 x5.lt
  clear hb1 x5 B0
  go_wp2_with (first | (go_at_call 54; ((with_reducible refine (Q2.out _).mono ?_); rintro e w' ⟨rfl, rfl⟩)) | (go_at_call 54; ((with_reducible refine (Q2b.out _).mono ?_); rintro e w' ⟨rfl, rfl⟩)))
  refine (Q3.out _ B1).mono ?_
  rintro e w2 ⟨rfl, hb2⟩
  have B2 := below_tr B1 hb2
  have v5 := y5.below hb2 y5.lt
  clear y5
  go_wp2_with fail
  refine (Q4.out _ B2).mono ?_
  rintro e w3 ⟨rfl, hb3⟩
  have B3 := below_tr B2 hb3
  have o5 := v5.below hb3 v5.lt
  clear v5 hb2 hb3 B1 B2 Q1 Q2 Q2b Q3 Q4
  go_wp2_with fail
  go_loopw [12] (fun i wr => ∃ k : Nat, k ≤ ways.length ∧ i = .int .i64 k ∧ Below w.heap.size w wr ∧ Blk wr w.heap.size 24 (spA f) ∧ Hid (idxOf (cwP f r d l) ways 0 = idxOf (cwP f r d l) (ways.drop k) k)) (fun i _ => ways.length - (intOf i).toNat)
  case atStart => exact ⟨0, by omega, rfl, B3, o5, Lib.hid rfl⟩
  case round =>
    clear o5 B3
    obtain ⟨k, hk, rfl, hbw, xb, HI⟩ := hrel
    have k0 : (0 : Int) ≤ (k : Int) := Int.natCast_nonneg _
    by_cases hlt : k < ways.length
    · have k1 : (k : Int) < (ways.length : Int) := by omega
      obtain ⟨x, b, off, hx, rfl, hb, c0, c1⟩ := rdS (hS.on hbw) hlt
      have HD := Lib.hid (idxOf_drop (cwP f r d l) ways k x hx)
      have HCX := Lib.hid (HCW.out x)
      have HHX := Lib.hid (HHIT.out x)
      clear hx HCW HHIT
      have z0 : Blk ((wr.alloc (.cells (znC ⟨f, x, r, d⟩) 44)).drew) wr.heap.size 44 (znC ⟨f, x, r, d⟩) := Blk.new wr 44 (znC ⟨f, x, r, d⟩)
      have xb2 : Blk ((wr.alloc (.cells (znC ⟨f, x, r, d⟩) 44)).drew) w.heap.size 24 (spA f) := xb.alloc (.cells (znC ⟨f, x, r, d⟩) 44)
      have BZ : Below w.heap.size w ((wr.alloc (.cells (znC ⟨f, x, r, d⟩) 44)).drew) := below_draw (bl_alloc hbw _)
      have e0 := xb.cell 0
      have e1 := xb.cell 1
      simp only [List.getElem?_toArray, List.getElem?_cons_zero, List.getElem?_cons_succ] at e0 e1
      have zl := xb.lt
      have HV := Lib.hid (fun W => r_ValidZone ⟨f, x, r, d⟩ W)
      cases hv : vZn ⟨f, x, r, d⟩
      · rw [hv] at HV HCX
        have HN := Lib.hid (show idxOf (cwP f r d l) ways 0 = idxOf (cwP f r d l) (ways.drop (k + 1)) (k + 1) by rw [HI.out, HD.out, HCX.out]; rfl)
        clear hv HD HCX HI
        go_wp2_with fail
        go_region
        go_wp2_with fail
        refine (HV.out _).mono ?_
        rintro e w5 ⟨rfl, hb5⟩
        go_wp2
        go_roundw
        case rel => exact ⟨k + 1, by omega, by go_num, below_tr BZ hb5, xb2.below hb5 xb2.lt, HN⟩
        case measure => simp [intOf]; omega
      · have HQ := Lib.hid (HHX.out hv)
        rw [hv] at HV HCX
        clear hv HHX
        unfold HitP at HQ
        generalize fZ (htP ⟨f, x, r, d⟩ l) l.length = L2 at *
        generalize fN (htP ⟨f, x, r, d⟩ l) l.length = L at *
        go_wp2_with fail
        go_region
        go_wp2_with fail
        refine (HV.out _).mono ?_
        rintro e w5 ⟨rfl, hb5⟩
        have B5 := below_tr BZ hb5
        have z5 := z0.below hb5 z0.lt
        have xb5 := xb2.below hb5 xb2.lt
        have q0 := z5.cell 0
        have q1 := z5.cell 1
        have q2 := z5.cell 2
        have q3 := z5.cell 3
        have q4 := z5.cell 4
        have q5 := z5.cell 5
        simp only [List.getElem?_toArray, List.getElem?_cons_zero, List.getElem?_cons_succ] at q0 q1 q2 q3 q4 q5
        have zl5 := z5.lt
        go_wp2_with fail
        refine (HQ.out _ B5).mono ?_
        rintro e w6 ⟨A6, c6, rfl, _, hb6⟩
        by_cases hL : L.length = 0
        · have hL' : (L.length : Int) = 0 := by omega
          have hq : ((L.length : Int) == 0) = true := by simpa using hL
          have hix : idxOf (cwP f r d l) ways 0 = (k : Int) := by rw [HI.out, HD.out, HCX.out, decide_eq_true hL]; rfl
          have HE := Lib.hid (cl_some HK.out (show ¬ idxOf (cwP f r d l) ways 0 < 0 by rw [hix]; omega))
          rw [hix] at HE
          clear hix HCX HD HI
          go_wp2
          go_ret2
          exact ⟨by rw [HE.out.1, HE.out.2]; rfl, below_tr B5 hb6⟩
        · have hL' : ¬ (L.length : Int) = 0 := by omega
          have hq : ((L.length : Int) == 0) = false := by simpa using hL
          have HN := Lib.hid (show idxOf (cwP f r d l) ways 0 = idxOf (cwP f r d l) (ways.drop (k + 1)) (k + 1) by rw [HI.out, HD.out, HCX.out, decide_eq_false hL]; rfl)
          clear HCX HD HI
          go_wp2
          go_roundw
          case rel => exact ⟨k + 1, by omega, by go_num, below_tr B5 hb6, xb5.below hb6 xb5.lt, HN⟩
          case measure => simp [intOf]; omega
    · obtain rfl : k = ways.length := by omega
      have hix : idxOf (cwP f r d l) ways 0 < 0 := by rw [HI.out, List.drop_of_length_le (by omega)]; unfold idxOf; omega
      have HE := Lib.hid (cl_none HK.out hix)
      clear hix HI
      go_wp2
      go_ret2
      exact ⟨by rw [HE.out.1, HE.out.2]; rfl, hbw⟩
end Go.Proofs.Ytkeojokbpjdhpaa
