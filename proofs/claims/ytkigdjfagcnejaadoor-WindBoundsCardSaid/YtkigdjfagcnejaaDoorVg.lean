/- Wind: the first window, by the program. -/
import Derived.Test.YtkigdjfagcnejaaDoorVf
set_option linter.unusedSimpArgs false
set_option linter.unusedVariables false
namespace Go.Proofs.YtkigdjfagcnejaaDoor
open Go.RowKit

/-- the first cast that does not end by a minute -/
def kF : List Ca → Int → Nat
  | [], _ => 0
  | x :: c, t => if x.t ≤ t then kF c t + 1 else 0
theorem kF_le (c : List Ca) (t : Int) : kF c t ≤ c.length := by
  induction c with
  | nil => exact Nat.le_refl _
  | cons x c ih => unfold kF; split <;> simp <;> omega
theorem kF_lt {c : List Ca} {t : Int} : ∀ {k : Nat} {x : Ca}, k < kF c t → c[k]? = some x → x.t ≤ t := by
  induction c with
  | nil => intro k x hk _; simp [kF] at hk
  | cons y c ih =>
    intro k x hk hx
    unfold kF at hk
    split at hk
    · cases k with
      | zero => cases hx; assumption
      | succ k => exact ih (by omega) hx
    · omega
theorem kF_at {c : List Ca} {t : Int} {x : Ca} (hx : c[kF c t]? = some x) : t < x.t := by
  induction c with
  | nil => simp at hx
  | cons y c ih =>
    unfold kF at hx
    split at hx
    · exact ih hx
    · cases hx; omega
theorem kF_mono (c : List Ca) {t u : Int} (h : t ≤ u) : kF c t ≤ kF c u := by
  induction c with
  | nil => exact Nat.le_refl _
  | cons y c ih =>
    unfold kF
    split
    · rw [if_pos (by omega)]; omega
    · omega
theorem kF_step {c : List Ca} {t : Int} {k : Nat} {x : Ca} (hk : k ≤ kF c t) (hx : c[k]? = some x) (h : x.t ≤ t) : k + 1 ≤ kF c t := by
  rcases Nat.eq_or_lt_of_le hk with e | h2
  · subst e; have := kF_at hx; omega
  · omega
theorem kF_stop {c : List Ca} {t : Int} {k : Nat} (hk : k ≤ kF c t) (h : ∀ x, c[k]? = some x → t < x.t) (hl : k ≤ c.length) : kF c t = k := by
  rcases Nat.eq_or_lt_of_le hk with e | h2
  · exact e.symm
  · have hlt : k < c.length := by have := kF_le c t; omega
    obtain ⟨x, hx⟩ := get_lt hlt
    have := kF_lt h2 hx
    have := h x hx
    omega
/-- the cast of a minute -/
def ctO (c : List Ca) (t : Int) : Option Ca := match c[kF c t]? with
  | some x => if x.f ≤ t then some x else none
  | none => none
/-- where the row of fine minutes that reaches minute from + k begins -/
def bgS (fine : Int → Bool) (fr : Int) : Nat → Int
  | 0 => fr
  | k + 1 => if fine (fr + k) = true then bgS fine fr k else fr + k + 1
def hitB (fine : Int → Bool) (n fr : Int) (k : Nat) : Bool := fine (fr + k) && decide (fr + k + 1 - bgS fine fr k = n)
def winO (fine : Int → Bool) (n fr to : Int) : Option Nat := (List.range (to - fr).toNat).find? (hitB fine n fr)
def winE (fine : Int → Bool) (n fr to : Int) : Int := match winO fine n fr to with | some _ => 0 | none => 8
def winI (fine : Int → Bool) (n fr to : Int) : Int := match winO fine n fr to with | some k => bgS fine fr k | none => 0
theorem bgS_bd (fine : Int → Bool) (fr : Int) : ∀ k : Nat, fr ≤ bgS fine fr k ∧ bgS fine fr k ≤ fr + k ∧ ∀ i : Int, bgS fine fr k ≤ i → i < fr + k → fine i = true
  | 0 => ⟨Int.le_refl _, by simp [bgS], fun i h1 h2 => by simp [bgS] at h1 h2; omega⟩
  | k + 1 => by
    obtain ⟨h1, h2, h3⟩ := bgS_bd fine fr k
    unfold bgS
    split
    · rename_i hf
      refine ⟨h1, by omega, fun i h4 h5 => ?_⟩
      by_cases hi : i = fr + k
      · subst hi; exact hf
      · exact h3 i h4 (by omega)
    · exact ⟨by omega, by omega, fun i h4 h5 => by omega⟩
theorem find_range_none {p : Nat → Bool} {n : Nat} (h : ∀ k, k < n → p k = false) : (List.range n).find? p = none := by
  rw [List.find?_eq_none]
  intro k hk
  rw [h k (by simpa using hk)]; simp
theorem find_range_some {p : Nat → Bool} {n k : Nat} (hk : k < n) (hp : p k = true) (h : ∀ j, j < k → p j = false) : (List.range n).find? p = some k := by
  rw [List.find?_range_eq_some]
  exact ⟨hp, by simpa using hk, fun j hj => by rw [h j hj]; rfl⟩
abbrev caZ0 : Ca := ⟨0, 0, 0, 0⟩
theorem ctO_some {c : List Ca} {t : Int} {x : Ca} (hx : c[kF c t]? = some x) (h : x.f ≤ t) : ctO c t = some x := by unfold ctO; rw [hx]; simp [h]
theorem ctO_late {c : List Ca} {t : Int} {x : Ca} (hx : c[kF c t]? = some x) (h : ¬ x.f ≤ t) : ctO c t = none := by unfold ctO; rw [hx]; simp [h]
theorem ctO_none {c : List Ca} {t : Int} (hx : c[kF c t]? = none) : ctO c t = none := by unfold ctO; rw [hx]
set_option maxHeartbeats 4000000 in
set_option maxRecDepth 20000 in
theorem p_first (A : Option Addr) (l : List Ca) (c : Nat) (n fr to : Int) (q : Option Ca → Bool) (f : FuncId) (cap : Array Value) (w : World) (hl : l.length ≤ 100000) (h0 : 0 ≤ fr) (h1 : fr ≤ to) (h2 : to ≤ 100000) (hn : n ≤ 100000) (hn0 : 0 ≤ n) (hR : Rd Ca.cs 4 w A l)
    (he : ∀ args W, (callFunc f args).run Tryd.prog W = .ok (.enter f args) W)
    (hf : ∀ W o, Below w.heap.size w W → Calls Tryd.prog f (#[caV (o.getD caZ0), .bool o.isSome] ++ cap) W fun e W' => e = .returned (.bool (q o)) ∧ Below W.heap.size W W') :
    Calls Tryd.prog 61 #[.slice A l.length c, .int .i64 n, .int .i64 fr, .int .i64 to, .func (.func f) #[] cap] w fun e w' => e = .returned (.tuple #[.int .i64 (winI (fun t => q (ctO l t)) n fr to), .int .i64 (winE (fun t => q (ctO l t)) n fr to)]) ∧ Below w.heap.size w w' := by
  have HF := Lib.hid hf
  have HWE := Lib.hid (show winE (fun t => q (ctO l t)) n fr to = (match winO (fun t => q (ctO l t)) n fr to with | some _ => 0 | none => 8) from rfl)
  have HWI := Lib.hid (show winI (fun t => q (ctO l t)) n fr to = (match winO (fun t => q (ctO l t)) n fr to with | some k => bgS (fun t => q (ctO l t)) fr k | none => 0) from rfl)
  have HWO := Lib.hid (show winO (fun t => q (ctO l t)) n fr to = (List.range (to - fr).toNat).find? (hitB (fun t => q (ctO l t)) n fr) from rfl)
  have HBG := Lib.hid (bgS_bd (fun t => q (ctO l t)) fr)
  have HBS := Lib.hid (fun k : Nat => show bgS (fun t => q (ctO l t)) fr (k + 1) = if q (ctO l (fr + k)) = true then bgS (fun t => q (ctO l t)) fr k else fr + k + 1 from rfl)
  have HHB := Lib.hid (fun k : Nat => show hitB (fun t => q (ctO l t)) n fr k = (q (ctO l (fr + k)) && decide (fr + k + 1 - bgS (fun t => q (ctO l t)) fr k = n)) from rfl)
  clear hf
  go_enter Tryd.func61, Tryd.ntmps61
  go_wp2
  go_loopw [12, 13, 14] (fun b k t wr => ∃ (m j : Nat), fr + m ≤ to ∧ j ≤ l.length ∧ b = .int .i64 (bgS (fun t => q (ctO l t)) fr m) ∧ k = .int .i64 j ∧ t = .int .i64 (fr + m) ∧ Below w.heap.size w wr ∧ Hid (j ≤ kF l (fr + m) ∧ ∀ i, i < m → hitB (fun t => q (ctO l t)) n fr i = false)) (fun _ _ t _ => (to - intOf t).toNat)
  case atStart => exact ⟨0, 0, by omega, by omega, rfl, rfl, by simp, below_refl _, Lib.hid ⟨by omega, fun i hi => by omega⟩⟩
  case round =>
    obtain ⟨m, j, hm, hj, rfl, rfl, rfl, hbw, HI⟩ := hrel
    have m0 : (0 : Int) ≤ (m : Int) := Int.natCast_nonneg _
    obtain ⟨b0, b1, _⟩ := HBG.out m
    by_cases hlt : fr + m < to
    · go_wp2
      go_loop [13] (fun k => ∃ j : Nat, j ≤ l.length ∧ k = .int .i64 j ∧ Hid (j ≤ kF l (fr + m))) (fun k => l.length - (intOf k).toNat)
      case atStart => exact ⟨j, hj, rfl, Lib.hid HI.out.1⟩
      case round =>
        clear hj
        obtain ⟨j, hj, rfl, HJ⟩ := hrel
        have j0 : (0 : Int) ≤ (j : Int) := Int.natCast_nonneg _
        by_cases hjl : j < l.length
        · have j1 : (j : Int) < (l.length : Int) := by omega
          obtain ⟨x, b, off, hx, rfl, hb, c0, c1, c2, c3⟩ := rdCa (hR.on hbw) hjl
          by_cases hxt : x.t ≤ fr + m
          · have HJ2 := Lib.hid (kF_step HJ.out hx hxt)
            clear hx
            go_wp2
            go_round
            case rel => exact ⟨j + 1, by omega, by go_num, HJ2⟩
            case measure => simp [intOf]; omega
          · have hkf := kF_stop HJ.out (fun y hy => by rw [hx] at hy; cases hy; omega) hj
            by_cases hxf : x.f ≤ fr + m
            · have HO := Lib.hid (ctO_some (c := l) (t := fr + m) (x := x) (by rw [hkf]; exact hx) hxf)
              clear hx
              have HKM := Lib.hid (kF_mono l (show fr + (m : Int) ≤ fr + ((m + 1 : Nat) : Int) by omega))
              have HJ3 := Lib.hid (by rw [hkf]; exact Nat.le_refl _ : j ≤ kF l (fr + m))
              cases hq : q (some x)
              · have HQ := Lib.hid (show q (ctO l (fr + m)) = false by rw [HO.out]; exact hq)
                have HB2 := Lib.hid (show bgS (fun t => q (ctO l t)) fr (m + 1) = fr + m + 1 by rw [HBS.out, HQ.out]; rfl)
                have HH2 := Lib.hid (show hitB (fun t => q (ctO l t)) n fr m = false by rw [HHB.out, HQ.out]; rfl)
                clear hkf
                go_wp2
                go_region
                go_wp2_with fail
                refine (HF.out _ (some x) (by (repeat' (first | assumption | exact below_refl _ | refine bl_alloc ?_ _ | refine Below.setCell ?_ ?_ _ | refine below_draw ?_ | refine below_drewN ?_ _ | refine below_tr ?_ (by assumption))) <;> (first | omega | (simp; done) | (simp; omega)))).mono ?_
                rintro e w5 ⟨rfl, hb5⟩
                rw [hq]
                go_wp2
                go_roundw
                case rel => exact ⟨m + 1, j, by omega, by omega, by rw [HB2.out], rfl, int_eq (by omega), by (repeat' (first | assumption | exact below_refl _ | refine bl_alloc ?_ _ | refine Below.setCell ?_ ?_ _ | refine below_draw ?_ | refine below_drewN ?_ _ | refine below_tr ?_ (by assumption))) <;> (first | omega | (simp; done) | (simp; omega)), Lib.hid ⟨by have := HJ3.out; have := HKM.out; omega, fun i hi => by
                  by_cases him : i = m
                  · subst him; exact HH2.out
                  · exact HI.out.2 i (by omega)⟩⟩
                case measure => simp [intOf]; omega
              · have HQ := Lib.hid (show q (ctO l (fr + m)) = true by rw [HO.out]; exact hq)
                have HB2 := Lib.hid (show bgS (fun t => q (ctO l t)) fr (m + 1) = bgS (fun t => q (ctO l t)) fr m by rw [HBS.out, HQ.out]; rfl)
                have hhit : hitB (fun t => q (ctO l t)) n fr m = decide (fr + m + 1 - bgS (fun t => q (ctO l t)) fr m = n) := by rw [HHB.out, HQ.out]; rfl
                have HHIT := Lib.hid hhit
                clear hhit
                clear hkf
                by_cases hn3 : fr + m + 1 - bgS (fun t => q (ctO l t)) fr m = n
                · have HW := Lib.hid (show winO (fun t => q (ctO l t)) n fr to = some m by rw [HWO.out]; exact find_range_some (by omega) (by rw [HHIT.out]; exact decide_eq_true hn3) HI.out.2)
                  have HE := Lib.hid (show winE (fun t => q (ctO l t)) n fr to = 0 by rw [HWE.out, HW.out])
                  have HII := Lib.hid (show winI (fun t => q (ctO l t)) n fr to = bgS (fun t => q (ctO l t)) fr m by rw [HWI.out, HW.out])
                  have hn4 : (fr + m + 1 - bgS (fun t => q (ctO l t)) fr m == n) = true := by simpa using hn3
                  generalize bgS (fun t => q (ctO l t)) fr m = BG at *
                  go_wp2
                  go_region
                  go_wp2_with fail
                  refine (HF.out _ (some x) (by (repeat' (first | assumption | exact below_refl _ | refine bl_alloc ?_ _ | refine Below.setCell ?_ ?_ _ | refine below_draw ?_ | refine below_drewN ?_ _ | refine below_tr ?_ (by assumption))) <;> (first | omega | (simp; done) | (simp; omega)))).mono ?_
                  rintro e w5 ⟨rfl, hb5⟩
                  rw [hq]
                  go_wp2
                  go_ret2
                  exact ⟨by rw [HE.out, HII.out]; rfl, by (repeat' (first | assumption | exact below_refl _ | refine bl_alloc ?_ _ | refine Below.setCell ?_ ?_ _ | refine below_draw ?_ | refine below_drewN ?_ _ | refine below_tr ?_ (by assumption))) <;> (first | omega | (simp; done) | (simp; omega))⟩
                · have HH2 := Lib.hid (show hitB (fun t => q (ctO l t)) n fr m = false by rw [HHIT.out]; exact decide_eq_false hn3)
                  have hn4 : (fr + m + 1 - bgS (fun t => q (ctO l t)) fr m == n) = false := by simpa using hn3
                  generalize hBG : bgS (fun t => q (ctO l t)) fr m = BG at *
                  have HBG2 := Lib.hid hBG
                  clear hBG
                  go_wp2
                  go_region
                  go_wp2_with fail
                  refine (HF.out _ (some x) (by (repeat' (first | assumption | exact below_refl _ | refine bl_alloc ?_ _ | refine Below.setCell ?_ ?_ _ | refine below_draw ?_ | refine below_drewN ?_ _ | refine below_tr ?_ (by assumption))) <;> (first | omega | (simp; done) | (simp; omega)))).mono ?_
                  rintro e w5 ⟨rfl, hb5⟩
                  rw [hq]
                  go_wp2
                  go_roundw
                  case rel => exact ⟨m + 1, j, by omega, by omega, by rw [HB2.out], rfl, int_eq (by omega), by (repeat' (first | assumption | exact below_refl _ | refine bl_alloc ?_ _ | refine Below.setCell ?_ ?_ _ | refine below_draw ?_ | refine below_drewN ?_ _ | refine below_tr ?_ (by assumption))) <;> (first | omega | (simp; done) | (simp; omega)), Lib.hid ⟨by have := HJ3.out; have := HKM.out; omega, fun i hi => by
                    by_cases him : i = m
                    · subst him; exact HH2.out
                    · exact HI.out.2 i (by omega)⟩⟩
                  case measure => simp [intOf]; omega
            · have HO := Lib.hid (ctO_late (c := l) (t := fr + m) (x := x) (by rw [hkf]; exact hx) hxf)
              have hxf' : decide (x.f ≤ fr + m) = false := decide_eq_false hxf
              clear hx
              have HKM := Lib.hid (kF_mono l (show fr + (m : Int) ≤ fr + ((m + 1 : Nat) : Int) by omega))
              have HJ3 := Lib.hid (by rw [hkf]; exact Nat.le_refl _ : j ≤ kF l (fr + m))
              cases hq : q (none)
              · have HQ := Lib.hid (show q (ctO l (fr + m)) = false by rw [HO.out]; exact hq)
                have HB2 := Lib.hid (show bgS (fun t => q (ctO l t)) fr (m + 1) = fr + m + 1 by rw [HBS.out, HQ.out]; rfl)
                have HH2 := Lib.hid (show hitB (fun t => q (ctO l t)) n fr m = false by rw [HHB.out, HQ.out]; rfl)
                clear hkf
                go_wp2
                go_region
                go_wp2_with fail
                refine (HF.out _ (none) (by (repeat' (first | assumption | exact below_refl _ | refine bl_alloc ?_ _ | refine Below.setCell ?_ ?_ _ | refine below_draw ?_ | refine below_drewN ?_ _ | refine below_tr ?_ (by assumption))) <;> (first | omega | (simp; done) | (simp; omega)))).mono ?_
                rintro e w5 ⟨rfl, hb5⟩
                rw [hq]
                go_wp2
                go_roundw
                case rel => exact ⟨m + 1, j, by omega, by omega, by rw [HB2.out], rfl, int_eq (by omega), by (repeat' (first | assumption | exact below_refl _ | refine bl_alloc ?_ _ | refine Below.setCell ?_ ?_ _ | refine below_draw ?_ | refine below_drewN ?_ _ | refine below_tr ?_ (by assumption))) <;> (first | omega | (simp; done) | (simp; omega)), Lib.hid ⟨by have := HJ3.out; have := HKM.out; omega, fun i hi => by
                  by_cases him : i = m
                  · subst him; exact HH2.out
                  · exact HI.out.2 i (by omega)⟩⟩
                case measure => simp [intOf]; omega
              · have HQ := Lib.hid (show q (ctO l (fr + m)) = true by rw [HO.out]; exact hq)
                have HB2 := Lib.hid (show bgS (fun t => q (ctO l t)) fr (m + 1) = bgS (fun t => q (ctO l t)) fr m by rw [HBS.out, HQ.out]; rfl)
                have hhit : hitB (fun t => q (ctO l t)) n fr m = decide (fr + m + 1 - bgS (fun t => q (ctO l t)) fr m = n) := by rw [HHB.out, HQ.out]; rfl
                have HHIT := Lib.hid hhit
                clear hhit
                clear hkf
                by_cases hn3 : fr + m + 1 - bgS (fun t => q (ctO l t)) fr m = n
                · have HW := Lib.hid (show winO (fun t => q (ctO l t)) n fr to = some m by rw [HWO.out]; exact find_range_some (by omega) (by rw [HHIT.out]; exact decide_eq_true hn3) HI.out.2)
                  have HE := Lib.hid (show winE (fun t => q (ctO l t)) n fr to = 0 by rw [HWE.out, HW.out])
                  have HII := Lib.hid (show winI (fun t => q (ctO l t)) n fr to = bgS (fun t => q (ctO l t)) fr m by rw [HWI.out, HW.out])
                  have hn4 : (fr + m + 1 - bgS (fun t => q (ctO l t)) fr m == n) = true := by simpa using hn3
                  generalize bgS (fun t => q (ctO l t)) fr m = BG at *
                  go_wp2
                  go_region
                  go_wp2_with fail
                  refine (HF.out _ (none) (by (repeat' (first | assumption | exact below_refl _ | refine bl_alloc ?_ _ | refine Below.setCell ?_ ?_ _ | refine below_draw ?_ | refine below_drewN ?_ _ | refine below_tr ?_ (by assumption))) <;> (first | omega | (simp; done) | (simp; omega)))).mono ?_
                  rintro e w5 ⟨rfl, hb5⟩
                  rw [hq]
                  go_wp2
                  go_ret2
                  exact ⟨by rw [HE.out, HII.out]; rfl, by (repeat' (first | assumption | exact below_refl _ | refine bl_alloc ?_ _ | refine Below.setCell ?_ ?_ _ | refine below_draw ?_ | refine below_drewN ?_ _ | refine below_tr ?_ (by assumption))) <;> (first | omega | (simp; done) | (simp; omega))⟩
                · have HH2 := Lib.hid (show hitB (fun t => q (ctO l t)) n fr m = false by rw [HHIT.out]; exact decide_eq_false hn3)
                  have hn4 : (fr + m + 1 - bgS (fun t => q (ctO l t)) fr m == n) = false := by simpa using hn3
                  generalize hBG : bgS (fun t => q (ctO l t)) fr m = BG at *
                  have HBG2 := Lib.hid hBG
                  clear hBG
                  go_wp2
                  go_region
                  go_wp2_with fail
                  refine (HF.out _ (none) (by (repeat' (first | assumption | exact below_refl _ | refine bl_alloc ?_ _ | refine Below.setCell ?_ ?_ _ | refine below_draw ?_ | refine below_drewN ?_ _ | refine below_tr ?_ (by assumption))) <;> (first | omega | (simp; done) | (simp; omega)))).mono ?_
                  rintro e w5 ⟨rfl, hb5⟩
                  rw [hq]
                  go_wp2
                  go_roundw
                  case rel => exact ⟨m + 1, j, by omega, by omega, by rw [HB2.out], rfl, int_eq (by omega), by (repeat' (first | assumption | exact below_refl _ | refine bl_alloc ?_ _ | refine Below.setCell ?_ ?_ _ | refine below_draw ?_ | refine below_drewN ?_ _ | refine below_tr ?_ (by assumption))) <;> (first | omega | (simp; done) | (simp; omega)), Lib.hid ⟨by have := HJ3.out; have := HKM.out; omega, fun i hi => by
                    by_cases him : i = m
                    · subst him; exact HH2.out
                    · exact HI.out.2 i (by omega)⟩⟩
                  case measure => simp [intOf]; omega
        · have hkf := kF_stop HJ.out (fun y hy => by have := (List.getElem?_eq_some_iff.1 hy).1; omega) hj
          have HO := Lib.hid (ctO_none (c := l) (t := fr + m) (by rw [hkf]; exact List.getElem?_eq_none (by omega)))
          have hjl' : decide ((j : Int) < (l.length : Int)) = false := decide_eq_false (by omega)
          have hjl2 : ¬ (j : Int) < (l.length : Int) := by omega
          have HKM := Lib.hid (kF_mono l (show fr + (m : Int) ≤ fr + ((m + 1 : Nat) : Int) by omega))
          have HJ3 := Lib.hid (by rw [hkf]; exact Nat.le_refl _ : j ≤ kF l (fr + m))
          cases hq : q (none)
          · have HQ := Lib.hid (show q (ctO l (fr + m)) = false by rw [HO.out]; exact hq)
            have HB2 := Lib.hid (show bgS (fun t => q (ctO l t)) fr (m + 1) = fr + m + 1 by rw [HBS.out, HQ.out]; rfl)
            have HH2 := Lib.hid (show hitB (fun t => q (ctO l t)) n fr m = false by rw [HHB.out, HQ.out]; rfl)
            clear hkf
            go_wp2
            go_region
            go_wp2_with fail
            refine (HF.out _ (none) (by (repeat' (first | assumption | exact below_refl _ | refine bl_alloc ?_ _ | refine Below.setCell ?_ ?_ _ | refine below_draw ?_ | refine below_drewN ?_ _ | refine below_tr ?_ (by assumption))) <;> (first | omega | (simp; done) | (simp; omega)))).mono ?_
            rintro e w5 ⟨rfl, hb5⟩
            rw [hq]
            go_wp2
            go_roundw
            case rel => exact ⟨m + 1, j, by omega, by omega, by rw [HB2.out], rfl, int_eq (by omega), by (repeat' (first | assumption | exact below_refl _ | refine bl_alloc ?_ _ | refine Below.setCell ?_ ?_ _ | refine below_draw ?_ | refine below_drewN ?_ _ | refine below_tr ?_ (by assumption))) <;> (first | omega | (simp; done) | (simp; omega)), Lib.hid ⟨by have := HJ3.out; have := HKM.out; omega, fun i hi => by
              by_cases him : i = m
              · subst him; exact HH2.out
              · exact HI.out.2 i (by omega)⟩⟩
            case measure => simp [intOf]; omega
          · have HQ := Lib.hid (show q (ctO l (fr + m)) = true by rw [HO.out]; exact hq)
            have HB2 := Lib.hid (show bgS (fun t => q (ctO l t)) fr (m + 1) = bgS (fun t => q (ctO l t)) fr m by rw [HBS.out, HQ.out]; rfl)
            have hhit : hitB (fun t => q (ctO l t)) n fr m = decide (fr + m + 1 - bgS (fun t => q (ctO l t)) fr m = n) := by rw [HHB.out, HQ.out]; rfl
            have HHIT := Lib.hid hhit
            clear hhit
            clear hkf
            by_cases hn3 : fr + m + 1 - bgS (fun t => q (ctO l t)) fr m = n
            · have HW := Lib.hid (show winO (fun t => q (ctO l t)) n fr to = some m by rw [HWO.out]; exact find_range_some (by omega) (by rw [HHIT.out]; exact decide_eq_true hn3) HI.out.2)
              have HE := Lib.hid (show winE (fun t => q (ctO l t)) n fr to = 0 by rw [HWE.out, HW.out])
              have HII := Lib.hid (show winI (fun t => q (ctO l t)) n fr to = bgS (fun t => q (ctO l t)) fr m by rw [HWI.out, HW.out])
              have hn4 : (fr + m + 1 - bgS (fun t => q (ctO l t)) fr m == n) = true := by simpa using hn3
              generalize bgS (fun t => q (ctO l t)) fr m = BG at *
              go_wp2
              go_region
              go_wp2_with fail
              refine (HF.out _ (none) (by (repeat' (first | assumption | exact below_refl _ | refine bl_alloc ?_ _ | refine Below.setCell ?_ ?_ _ | refine below_draw ?_ | refine below_drewN ?_ _ | refine below_tr ?_ (by assumption))) <;> (first | omega | (simp; done) | (simp; omega)))).mono ?_
              rintro e w5 ⟨rfl, hb5⟩
              rw [hq]
              go_wp2
              go_ret2
              exact ⟨by rw [HE.out, HII.out]; rfl, by (repeat' (first | assumption | exact below_refl _ | refine bl_alloc ?_ _ | refine Below.setCell ?_ ?_ _ | refine below_draw ?_ | refine below_drewN ?_ _ | refine below_tr ?_ (by assumption))) <;> (first | omega | (simp; done) | (simp; omega))⟩
            · have HH2 := Lib.hid (show hitB (fun t => q (ctO l t)) n fr m = false by rw [HHIT.out]; exact decide_eq_false hn3)
              have hn4 : (fr + m + 1 - bgS (fun t => q (ctO l t)) fr m == n) = false := by simpa using hn3
              generalize hBG : bgS (fun t => q (ctO l t)) fr m = BG at *
              have HBG2 := Lib.hid hBG
              clear hBG
              go_wp2
              go_region
              go_wp2_with fail
              refine (HF.out _ (none) (by (repeat' (first | assumption | exact below_refl _ | refine bl_alloc ?_ _ | refine Below.setCell ?_ ?_ _ | refine below_draw ?_ | refine below_drewN ?_ _ | refine below_tr ?_ (by assumption))) <;> (first | omega | (simp; done) | (simp; omega)))).mono ?_
              rintro e w5 ⟨rfl, hb5⟩
              rw [hq]
              go_wp2
              go_roundw
              case rel => exact ⟨m + 1, j, by omega, by omega, by rw [HB2.out], rfl, int_eq (by omega), by (repeat' (first | assumption | exact below_refl _ | refine bl_alloc ?_ _ | refine Below.setCell ?_ ?_ _ | refine below_draw ?_ | refine below_drewN ?_ _ | refine below_tr ?_ (by assumption))) <;> (first | omega | (simp; done) | (simp; omega)), Lib.hid ⟨by have := HJ3.out; have := HKM.out; omega, fun i hi => by
                by_cases him : i = m
                · subst him; exact HH2.out
                · exact HI.out.2 i (by omega)⟩⟩
              case measure => simp [intOf]; omega
    · have HW := Lib.hid (show winO (fun t => q (ctO l t)) n fr to = none by rw [HWO.out]; exact find_range_none (fun k hk => HI.out.2 k (by omega)))
      have HE := Lib.hid (show winE (fun t => q (ctO l t)) n fr to = 8 by rw [HWE.out, HW.out])
      have HII := Lib.hid (show winI (fun t => q (ctO l t)) n fr to = 0 by rw [HWI.out, HW.out])
      go_wp2
      go_ret2
      exact ⟨by rw [HE.out, HII.out]; rfl, hbw⟩
end Go.Proofs.YtkigdjfagcnejaaDoor
