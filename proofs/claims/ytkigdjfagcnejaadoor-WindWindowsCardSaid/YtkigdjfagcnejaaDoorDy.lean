/- Wind cards: WindWindows walked. -/
import Derived.Test.YtkigdjfagcnejaaDoorDx
set_option linter.unusedSimpArgs false
set_option linter.unusedVariables false
namespace Go.Proofs.YtkigdjfagcnejaaDoor
open Go.RowKit

set_option maxHeartbeats 4000000 in
set_option maxRecDepth 20000 in
theorem l_WindWindows (A : Option Addr) (l : List Ca) (c : Nat) (mk n fr tu : Int) (w : World) (hl0 : l.length ≤ maxLen) (hR : Rd Ca.cs 4 w A l) :
    Calls Tryd.prog 6 #[.slice A l.length c, .int .i64 mk, .int .i64 n, .int .i64 fr, .int .i64 tu] w fun e w' => e = .returned (.bool true) ∧ Below w.heap.size w w' := by
  unfold maxLen at hl0
  by_cases c2 : 220 < (l.length : Int)
  · clear hR
    go_enter Tryd.func6, Tryd.ntmps6
    go_wp2_with (go_at_call 10; ((with_reducible refine (l_awake _).mono ?_); rintro e w1 ⟨rfl, hb1⟩; obtain ⟨hc1, hf1⟩ := bcell hb1; have hz1 := hb1.size; (try simp [sz_drew, sz_drewN] at hz1); (try simp only [sz_drew, sz_drewN] at hc1 hf1)))
    go_ret
    exact ⟨rfl, by (repeat' (first | assumption | exact below_refl _ | refine bl_alloc ?_ _ | refine Below.setCell ?_ ?_ _ | refine below_draw ?_ | refine below_drewN ?_ _ | refine below_tr ?_ (by assumption))) <;> (first | omega | (simp; done) | (simp; omega))⟩
  by_cases c1 : 30 < (l.length : Int) ∧ (l.length : Int) ≤ 200
  · obtain ⟨c3, c4⟩ := c1
    clear hR
    go_enter Tryd.func6, Tryd.ntmps6
    go_wp2_with (go_at_call 10; ((with_reducible refine (l_awake _).mono ?_); rintro e w1 ⟨rfl, hb1⟩; obtain ⟨hc1, hf1⟩ := bcell hb1; have hz1 := hb1.size; (try simp [sz_drew, sz_drewN] at hz1); (try simp only [sz_drew, sz_drewN] at hc1 hf1)))
    go_ret
    exact ⟨rfl, by (repeat' (first | assumption | exact below_refl _ | refine bl_alloc ?_ _ | refine Below.setCell ?_ ?_ _ | refine below_draw ?_ | refine below_drewN ?_ _ | refine below_tr ?_ (by assumption))) <;> (first | omega | (simp; done) | (simp; omega))⟩
  have hl : l.length ≤ 100000 := by omega
  go_enter Tryd.func6, Tryd.ntmps6
  go_wp2_with fail
  refine (l_awake w).mono ?_
  rintro e w1 ⟨rfl, B1⟩
  go_upto_region 3 with fail
  go_cut [58] (fun s wx => (∃ b : Bool, s = .bool b) ∧ Below w.heap.size w wx)
  case first =>
    have c5 : decide (220 < (l.length : Int)) = false := decide_eq_false (by omega)
    by_cases c3 : 30 < (l.length : Int)
    · have c4 : ¬ (l.length : Int) ≤ 200 := fun h => c1 ⟨c3, h⟩
      by_cases d1 : 0 ≤ fr
      · by_cases d2 : fr ≤ tu
        · by_cases d3 : tu ≤ 100000
          · have hw : IntKind.i64.wrap (tu - fr) = tu - fr := fits_wrap (by omega)
            go_wp2
            go_meet
            case rel => exact ⟨⟨_, rfl⟩, B1⟩
          · go_wp2
            go_meet
            case rel => exact ⟨⟨_, rfl⟩, B1⟩
        · go_wp2
          go_meet
          case rel => exact ⟨⟨_, rfl⟩, B1⟩
      · go_wp2
        go_meet
        case rel => exact ⟨⟨_, rfl⟩, B1⟩
    · by_cases d1 : 0 ≤ fr
      · by_cases d2 : fr ≤ tu
        · by_cases d3 : tu ≤ 100000
          · have hw : IntKind.i64.wrap (tu - fr) = tu - fr := fits_wrap (by omega)
            go_wp2
            go_meet
            case rel => exact ⟨⟨_, rfl⟩, B1⟩
          · go_wp2
            go_meet
            case rel => exact ⟨⟨_, rfl⟩, B1⟩
        · go_wp2
          go_meet
          case rel => exact ⟨⟨_, rfl⟩, B1⟩
      · go_wp2
        go_meet
        case rel => exact ⟨⟨_, rfl⟩, B1⟩
  case rest =>
    clear B1
    obtain ⟨⟨b, rfl⟩, B1⟩ := hcut
    cases b
    rotate_left
    · go_wp2
      go_ret
      exact ⟨rfl, B1⟩
    go_wp2_with fail
    refine (p_Sure A l c mk n fr tu wc hl (hR.on B1)).mono ?_
    rintro e w2 ⟨rfl, hb2⟩
    have B2 := below_tr B1 hb2
    clear hb2 B1
    go_wp2_with fail
    refine (r_Sure A l c mk n fr tu w2 hl (hR.on B2)).mono ?_
    rintro e w3 ⟨rfl, hb3⟩
    have B3 := below_tr B2 hb3
    clear hb3 B2
    have HV1 := Lib.hid (p_ValidCasts A l c w3 hl (hR.on B3))
    have HV2 := Lib.hid (fun W (h : Below w3.heap.size w3 W) => r_ValidCasts A l c W hl (hR.on (below_tr B3 h)))
    have HM1 := Lib.hid (fun W (h : Below w.heap.size w W) => p_Maybe A l c mk n fr tu W hl (hR.on h))
    have HM2 := Lib.hid (fun W (h : Below w.heap.size w W) => r_Maybe A l c mk n fr tu W hl (hR.on h))
    have HSM := Lib.hid (fun h => sure_may (c := l) (mk := mk) (n := n) (fr := fr) (tu := tu) h)
    have HMG := Lib.hid (fun h => sf_mg (c := l) h mk n fr tu)
    have HML := Lib.hid (fun W (h : Below w.heap.size w W) => p_Merged A l c W hl (hR.on h))
    have HMR := Lib.hid (fun W (h : Below w.heap.size w W) => r_Merged A l c W hl (hR.on h))
    have HLM := Lib.hid (show (mgL l).length ≤ 100000 by unfold mgL; split; exact Nat.le_trans (mgK_len _ _) hl; exact Nat.zero_le _)
    have HPS := Lib.hid (fun D d W (hD : Rd Ca.cs 4 W D (mgL l)) => p_Sure D (mgL l) d mk n fr tu W HLM.out hD)
    have HCA := Lib.hid (fun D d D' d' W (hD : Rd Ca.cs 4 W D (mgL l)) (hD' : Rd Ca.cs 4 W D' (mgL l)) => l_casts D D' (mgL l) d d' W HLM.out hD hD')
    have HME := Lib.hid (show mgE l = if vCa l = true then 0 else 1 from rfl)
    generalize hI1 : sfI (suQ mk) l mk n fr tu = I1 at *
    generalize hE1 : sfE (suQ mk) l mk n fr tu = E1 at *
    generalize hI2 : sfI (maQ mk) l mk n fr tu = I2 at *
    generalize hE2 : sfE (maQ mk) l mk n fr tu = E2 at *
    clear hI1 hE1 hI2 hE2
    go_wp2_with (first
      | (go_at_call 21; ((with_reducible refine (HV1.out).mono ?_); rintro e w4 ⟨rfl, hb4⟩; obtain ⟨hc4, hf4⟩ := bcell hb4; have hz4 := hb4.size; (try simp [sz_drew, sz_drewN] at hz4); (try simp only [sz_drew, sz_drewN] at hc4 hf4)))
      | (go_at_call 22; ((with_reducible refine (HV2.out _ hb4).mono ?_); rintro e w5 ⟨rfl, hb5⟩; obtain ⟨hc5, hf5⟩ := bcell hb5; have hz5 := hb5.size; (try simp [sz_drew, sz_drewN] at hz5); (try simp only [sz_drew, sz_drewN] at hc5 hf5))))
    have B5 := below_tr (below_tr B3 hb4) hb5
    refine (HM1.out _ B5).mono ?_
    rintro e w6 ⟨rfl, hb6⟩
    have B6 := below_tr B5 hb6
    clear hb4 hc4 hf4 hz4 hb5 hc5 hf5 hz5 hb6 B5 B3
    go_wp2_with fail
    refine (HM2.out _ B6).mono ?_
    rintro e w7 ⟨rfl, hb7⟩
    have B7 := below_tr B6 hb7
    clear B6 hb7
    go_upto_region 11 with fail
    go_cut [130] (fun s wx => s = .bool false ∧ wx = w7)
    case first =>
      by_cases hs : E1 = 0
      · obtain ⟨g1, g2⟩ := HSM.out hs
        subst hs g1
        have g3 : ¬ I1 < I2 := by omega
        go_wp2
        go_meet
        case rel => exact ⟨rfl, rfl⟩
      · have hs2 : (E1 == 0) = false := by simpa using hs
        go_wp2
        go_meet
        case rel => exact ⟨rfl, rfl⟩
    case rest =>
      obtain ⟨rfl, rfl⟩ := hcut
      go_wp2_with fail
      refine (HML.out _ B7).mono ?_
      rintro e w8 ⟨v8, rfl, ⟨A8, c8, rfl, r8⟩, hb8⟩
      have B8 := below_tr B7 hb8
      clear hb8 B7
      go_wp2_with fail
      refine (HMR.out _ B8).mono ?_
      rintro e w9 ⟨v9, rfl, ⟨A9, c9, rfl, r9⟩, hb9⟩
      have B9 := below_tr B8 hb9
      have s9 := r8.on hb9
      clear hb9 B8 r8
      have hgM : mgE l = if vCa l = true then 0 else 1 := HME.out
      cases hv : vCa l
      · rw [hv, if_neg (by decide)] at hgM
        rw [hgM]
        go_wp2_with fail
        refine (HCA.out _ _ _ _ _ s9 r9).mono ?_
        rintro e w10 ⟨rfl, hb10⟩
        go_wp2
        go_ret
        exact ⟨rfl, below_tr B9 hb10⟩
      · rw [hv, if_pos rfl] at hgM
        obtain ⟨m1, m2⟩ := HMG.out hv
        rw [hgM]
        go_wp2_with fail
        refine (HCA.out _ _ _ _ _ s9 r9).mono ?_
        rintro e w10 ⟨rfl, hb10⟩
        have B10 := below_tr B9 hb10
        have HS := Lib.hid (HPS.out A8 c8 w10 (s9.on hb10))
        rw [m1, m2] at HS
        clear hb10 B9 s9 r9 hgM
        generalize mgL l = M at *
        go_wp2_with (go_at_call 19; ((with_reducible refine (HS.out).mono ?_); rintro e w11 ⟨rfl, hb11⟩; obtain ⟨hc11, hf11⟩ := bcell hb11; have hz11 := hb11.size; (try simp [sz_drew, sz_drewN] at hz11); (try simp only [sz_drew, sz_drewN] at hc11 hf11)))
        go_ret
        exact ⟨ret_bool (by simp), below_tr B10 hb11⟩
end Go.Proofs.YtkigdjfagcnejaaDoor
