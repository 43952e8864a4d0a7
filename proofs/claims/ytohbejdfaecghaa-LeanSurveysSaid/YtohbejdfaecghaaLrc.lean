/- Lean: turned surveys by the reference; LeanSurveys walked. -/
import Derived.Test.YtohbejdfaecghaaLrb
import Derived.Test.YtohbejdfaecghaaLi
set_option linter.unusedSimpArgs false
set_option linter.unusedVariables false
namespace Go.Proofs.Ytohbejdfaecghaa
open Go.RowKit

theorem upM {l : List Mk} {cur : Array Value} {k : Nat} {x : Mk} {e n : Int} (hc : InRow Mk.cs 3 cur l) (hx : l[k]? = some x) :
    InRow Mk.cs 3 ((cur.setIfInBounds (k * 3 + 1) (.int .i64 e)).setIfInBounds (k * 3 + 2) (.int .i64 n)) (l.set k ⟨x.h, e, n⟩) := fun k' z hz r u hu => by
  have hr : r < 3 := by
    rcases Nat.lt_or_ge r 3 with h | h
    · exact h
    · rw [List.getElem?_eq_none (by rw [Mk.cs_len]; exact h)] at hu; cases hu
  have h1 := hc k x hx 1 _ rfl
  have h2 := hc k x hx 2 _ rfl
  have l1 := (Array.getElem?_eq_some_iff.1 h1).1
  have l2 := (Array.getElem?_eq_some_iff.1 h2).1
  by_cases hk : k = k'
  · subst hk
    have hkl : k < l.length := (List.getElem?_eq_some_iff.1 hx).1
    rw [List.getElem?_set_self hkl] at hz
    cases hz
    rcases (by omega : r = 0 ∨ r = 1 ∨ r = 2) with rfl | rfl | rfl
    · rw [Array.getElem?_setIfInBounds_ne (by omega), Array.getElem?_setIfInBounds_ne (by omega)]
      exact hc k x hx 0 u hu
    · rw [Array.getElem?_setIfInBounds_ne (by omega), Array.getElem?_setIfInBounds_self_of_lt l1]; exact hu
    · rw [Array.getElem?_setIfInBounds_self_of_lt (by simpa using l2)]; exact hu
  · rw [List.getElem?_set_ne hk] at hz
    rw [Array.getElem?_setIfInBounds_ne (by omega), Array.getElem?_setIfInBounds_ne (by omega)]
    exact hc k' z hz r u hu
theorem map_turn (j : Nat) (l : List Mk) : (l.map (turnK j)).map turn = l.map (turnK (j + 1)) := by rw [List.map_map]; rfl
set_option maxHeartbeats 4000000 in
set_option maxRecDepth 20000 in
theorem r_Turned (A : Option Addr) (l : List Mk) (c : Nat) (q : Int) (w : World) (hl : l.length ≤ 100000) (hR : Rd Mk.cs 3 w A l) :
    Calls Try.prog 49 #[.slice A l.length c, .int .i64 q] w fun e w' => ∃ v, e = .returned (.tuple #[v, .int .i64 (ptsE l)]) ∧ GotT w' v l q ∧ Below w.heap.size w w' := by
  have HV := Lib.hid (fun W (h : Below w.heap.size w W) => r_validM A l c W hl (hR.on h))
  cases hv : vldM l
  · have HE := Lib.hid (show ptsE l = 1 by simp [ptsE, hv])
    go_enter Try.func49, Try.ntmps49
    go_wp2_with (go_at_call 45; ((with_reducible refine (calls_bool hv (HV.out _ (below_refl _))).mono ?_); rintro e w1 ⟨rfl, hb1⟩; obtain ⟨hc1, hf1⟩ := bcell hb1; have hz1 := hb1.size; (try simp [sz_drew, sz_drewN] at hz1); (try simp only [sz_drew, sz_drewN] at hc1 hf1)))
    go_ret2
    exact ⟨_, by rw [HE.out]; rfl, gotT_no hv, by (repeat' (first | assumption | exact below_refl _ | refine bl_alloc ?_ _ | refine Below.setCell ?_ ?_ _ | refine below_draw ?_ | refine below_drewN ?_ _ | refine below_tr ?_ (by assumption))) <;> (first | omega | (simp; done) | (simp; omega))⟩
  · have HE := Lib.hid (show ptsE l = 0 by simp [ptsE, hv])
    have HVV := Lib.hid hv
    obtain ⟨h1, h2⟩ := vldM_len' hv
    obtain ⟨i0, hi, hi1, hi2, hi3⟩ := info_mark
    have HSA := Lib.hid (fun (k : Nat) (hk : k < l.length) => vldM_at hv hk)
    obtain ⟨b, off, rfl, hblt, _⟩ := hR (by rintro rfl; simp at h1)
    have HR := Lib.hid (fun W o (h : Below w.heap.size w W) => rd_fl Mk.cs_len ((hR.on h).on (below_alloc W o)))
    have h1' : ∀ u ∈ fl Mk.cs l, u.oneCell' = true := fun u hu => by
      simp only [fl, List.mem_flatMap, Mk.cs] at hu
      obtain ⟨x, _, hx⟩ := hu
      simp only [List.mem_cons, List.not_mem_nil, or_false] at hx
      rcases hx with rfl | rfl | rfl <;> rfl
    have HO := Lib.hid h1'
    clear h1'
    go_enter Try.func49, Try.ntmps49
    go_wp2_with (first
      | ((go_at_call 45; ((with_reducible refine (calls_bool hv (HV.out _ (below_refl _))).mono ?_); rintro e w1 ⟨rfl, hb1⟩; obtain ⟨hc1, hf1⟩ := bcell hb1; have hz1 := hb1.size; (try simp [sz_drew, sz_drewN] at hz1); (try simp only [sz_drew, sz_drewN] at hc1 hf1))); have B1 : Below w.heap.size w w1 := (by (repeat' (first | assumption | exact below_refl _ | refine bl_alloc ?_ _ | refine Below.setCell ?_ ?_ _ | refine below_draw ?_ | refine below_drewN ?_ _ | refine below_tr ?_ (by assumption))) <;> (first | omega | (simp; done) | (simp; omega))))
      | (at_builtin; go_loud (refine wpList_append_own _ rfl _ _ 53 rfl w1.heap.size 48 i0 (.agg #[.int .i64 0, .int .i64 0, .int .i64 0]) 3 24 (by kernel_rfl) hi hi1 hi2 hi3 rfl (by omega) _ _ _ rfl (own_none w1 _ 3) ⟨b, off, none⟩ l.length c (fl Mk.cs l) rfl (fl_length Mk.cs_len l) (HR.out _ _ B1) HO.out (by unfold maxLen; omega) (by omega) (by simp) ?_; intro v w2 hown hgrow _; rw [Nat.zero_add, List.nil_append] at hown; have hb2 : Below w1.heap.size w1 w2 := bl_grown (below_alloc w1 _) hgrow (fun r hr => by cases hr; exact Nat.le_refl _) (by simp); obtain ⟨g, cap, cur, rfl, hg, hbk, hcur⟩ := own_row Mk.cs_len hown (by omega))))
    have hwg : w.heap.size ≤ g := Nat.le_trans B1.size hg
    go_loopw [7] (fun i wr => ∃ j : Nat, j ≤ quart q ∧ i = .int .i64 ((quart q - j : Nat) : Int) ∧ Below w.heap.size w wr ∧ ∃ cur, Blk wr g 48 cur ∧ Hid (InRow Mk.cs 3 cur (l.map (turnK j)))) (fun i _ => (intOf i).toNat)
    case atStart => exact ⟨0, by omega, and3 q, below_tr B1 hb2, cur, hbk, Lib.hid (by rw [show l.map (turnK 0) = l by rw [show turnK 0 = id from rfl]; simp]; exact hcur)⟩
    case round =>
      obtain ⟨j, hj, rfl, hbw, cur2, hbk2, HC2⟩ := hrel
      by_cases hlt : j < quart q
      · have hm0 : (0 : Int) < ((quart q - j : Nat) : Int) := by omega
        have hm1 : ((quart q - j : Nat) : Int) - 1 = ((quart q - (j + 1) : Nat) : Int) := by omega
        have hm2 : ((quart q - (j + 1) : Nat) : Int).toNat < ((quart q - j : Nat) : Int).toNat := by omega
        have hm3 : ((quart q - j : Nat) : Int) ≤ 3 := by have := quart_lt q; omega
        generalize ((quart q - j : Nat) : Int) = m at *
        generalize hm' : ((quart q - (j + 1) : Nat) : Int) = m' at *
        have HM' := Lib.hid hm'
        clear hm'
        have hLl : (l.map (turnK j)).length = l.length := List.length_map ..
        go_wp2
        go_loopw [8] (fun i wr => ∃ k : Nat, k ≤ l.length ∧ i = .int .i64 k ∧ Below w.heap.size w wr ∧ ∃ cur, Blk wr g 48 cur ∧ Hid (InRow Mk.cs 3 cur (mixF turn k (l.map (turnK j))))) (fun i _ => l.length - (intOf i).toNat)
        case atStart => exact ⟨0, by omega, rfl, hbw, cur2, hbk2, Lib.hid (by rw [mixF_zero]; exact HC2.out)⟩
        case round =>
          obtain ⟨k, hk, rfl, hbw3, cur3, hbk3, HC3⟩ := hrel
          have hk0 : (0 : Int) ≤ (k : Int) := Int.natCast_nonneg _
          by_cases hkl : k < l.length
          · have hkl2 : (k : Int) < (l.length : Int) := by omega
            obtain ⟨y, hy⟩ := get_lt hkl
            have hx : (l.map (turnK j))[k]? = some (turnK j y) := by rw [List.getElem?_map, hy]; rfl
            obtain ⟨b0, b1, b2, b3, b4, b5⟩ := turn_sm (k := j) (by have := HSA.out k hkl; rwa [mkAt_of hy] at this)
            generalize turnK j y = x at *
            have hmx := mixF_get (f := turn) hx
            have q4 := (hbk3.cell (k * 3 + 1)).trans (HC3.out k x hmx 1 _ rfl)
            have q5 := (hbk3.cell (k * 3 + 2)).trans (HC3.out k x hmx 2 _ rfl)
            have f4 := hbk3.frozen (k * 3 + 1)
            have f5 := hbk3.frozen (k * 3 + 2)
            have HX := Lib.hid hx
            clear hx hmx hy
            go_wp2
            go_region
            all_goals go_wp2
            all_goals go_roundw
            all_goals first
              | exact ⟨k + 1, by omega, by go_num, below_draw ((hbw3.setCell (p := ⟨g, _, none⟩) hwg _).setCell (p := ⟨g, _, none⟩) hwg _), _, ((hbk3.set_ _ _).set_ _ _).drew, Lib.hid (by rw [← mixF_set HX.out]; exact upM HC3.out (mixF_get HX.out))⟩
              | (simp [intOf]; omega)
          · obtain rfl : k = l.length := by omega
            go_wp2
            go_roundw
            case rel => exact ⟨j + 1, by omega, by rw [HM'.out], hbw3, cur3, hbk3, Lib.hid (by have := HC3.out; rw [← hLl, mixF_all, map_turn] at this; exact this)⟩
            case measure => simpa [intOf] using hm2
      · obtain rfl : j = quart q := by omega
        rw [show ((quart q - quart q : Nat) : Int) = 0 by omega]
        have HG := Lib.hid (show GotT wr (.slice (some ⟨g, 0, none⟩) l.length cap) l q from ⟨_, cap, by unfold trnL; rw [if_pos HVV.out, List.length_map], by unfold trnL; rw [if_pos HVV.out]; exact row_rd hbk2 HC2.out⟩)
        go_wp2
        go_ret2
        exact ⟨_, by rw [HE.out]; rfl, HG.out, hbw⟩
theorem quart_one : quart 1 = 1 := by decide
theorem turn_four (m : Mk) : turn (turn (turn (turn m))) = m := by
  obtain ⟨h, e, n⟩ := m
  simp [turn]
/-- a survey after j quarters -/
def qs : Nat → List Mk → List Mk
  | 0, l => l
  | j + 1, l => (qs j l).map turn
theorem qs_four (l : List Mk) : qs 4 l = l := by
  simp only [qs, List.map_map]
  rw [show (turn ∘ turn ∘ turn ∘ turn) = id from funext fun m => turn_four m]; simp
theorem qs_len (j : Nat) (l : List Mk) : (qs j l).length = l.length := by
  induction j with
  | zero => rfl
  | succ j ih => simp [qs, ih]
theorem qs_vld (j : Nat) {l : List Mk} (h : vldM l = true) : vldM (qs j l) = true := by
  induction j with
  | zero => exact h
  | succ j ih => exact vldM_turn (k := 1) ih
theorem qs_trn (j : Nat) {l : List Mk} (h : vldM l = true) : trnL (qs j l) 1 = qs (j + 1) l := by
  unfold trnL
  rw [if_pos (qs_vld j h), quart_one]; rfl
theorem p_Turned_q {L : List Mk} (hv : vldM L = true) (hn : L.length ≤ 100000) (j : Nat) (A : Option Addr) (c : Nat) (W : World) (h : Rd Mk.cs 3 W A (qs j L)) :
    Calls Try.prog 48 #[.slice A L.length c, .int .i64 1] W fun e w' => ∃ A' c', e = .returned (.tuple #[.slice A' L.length c', .int .i64 0]) ∧ Rd Mk.cs 3 w' A' (qs (j + 1) L) ∧ Below W.heap.size W w' := by
  have hp := p_Turned A (qs j L) c 1 W (by rw [qs_len]; exact hn) h
  rw [qs_len] at hp
  refine hp.mono ?_
  rintro e w' ⟨v, rfl, ⟨A', c', rfl, hr⟩, hb⟩
  rw [qs_trn j hv] at hr
  refine ⟨A', c', ?_, hr, hb⟩
  rw [qs_trn j hv, qs_len, show ptsE (qs j L) = 0 by simp [ptsE, qs_vld j hv]]
set_option maxHeartbeats 4000000 in
set_option maxRecDepth 20000 in
theorem l_surveys (A : Option Addr) (l : List Mk) (c : Nat) (q : Int) (w : World) (hl : l.length ≤ maxLen) (hR : Rd Mk.cs 3 w A l) :
    Calls Try.prog 11 #[.slice A l.length c, .int .i64 q] w fun e w' => e = .returned (.bool true) ∧ Below w.heap.size w w' := by
  unfold maxLen at hl
  by_cases hlen : 100 < l.length
  · go_enter Try.func11, Try.ntmps11
    go_wp2_with (go_at_call 17; ((with_reducible refine (p_awake _).mono ?_); rintro e w1 ⟨rfl, hb1⟩; obtain ⟨hc1, hf1⟩ := bcell hb1; have hz1 := hb1.size; (try simp [sz_drew, sz_drewN] at hz1); (try simp only [sz_drew, sz_drewN] at hc1 hf1)))
    go_ret
    exact ⟨rfl, by (repeat' (first | assumption | exact below_refl _ | refine bl_alloc ?_ _ | refine Below.setCell ?_ ?_ _ | refine below_draw ?_ | refine below_drewN ?_ _ | refine below_tr ?_ (by assumption))) <;> (first | omega | (simp; done) | (simp; omega))⟩
  · have P1 := fun W (h : Below w.heap.size w W) => p_East A l c W (by omega) (hR.on h)
    have P2 := fun W (h : Below w.heap.size w W) => r_East A l c W (by omega) (hR.on h)
    have P3 := fun W (h : Below w.heap.size w W) => p_North A l c W (by omega) (hR.on h)
    have P4 := fun W (h : Below w.heap.size w W) => r_North A l c W (by omega) (hR.on h)
    have P5 := fun W (h : Below w.heap.size w W) => p_validM A l c W (by omega) (hR.on h)
    have P6 := fun W (h : Below w.heap.size w W) => r_validM A l c W (by omega) (hR.on h)
    have P7 := fun W (h : Below w.heap.size w W) => p_Turned A l c q W (by omega) (hR.on h)
    have P8 := fun W (h : Below w.heap.size w W) => r_Turned A l c q W (by omega) (hR.on h)
    unfold GotP at P1 P2 P3 P4
    unfold GotT at P7 P8
    have n1 : (if vldM l = true then ptsL (fun m => m.e) l else []).length ≤ 100000 := by split <;> simp [ptsL]; omega
    have n2 : (if vldM l = true then ptsL (fun m => m.n) l else []).length ≤ 100000 := by split <;> simp [ptsL]; omega
    have n3 : (trnL l q).length ≤ 100000 := by unfold trnL; split <;> simp; omega
    have n4 : ptsE l = 0 → vldM (trnL l q) = true := fun h => by
      unfold ptsE at h
      split at h
      · rename_i hv; unfold trnL; rw [if_pos hv]; exact vldM_turn hv
      · exact absurd h (by decide)
    generalize (if vldM l = true then ptsL (fun m => m.e) l else []) = L1 at *
    generalize (if vldM l = true then ptsL (fun m => m.n) l else []) = L2 at *
    generalize trnL l q = L3 at *
    generalize vldM l = V at *
    generalize ptsE l = E at *
    have S1 := Lib.hid (fun A B c d W h1 h2 => r_samePoints A B L1 c d W n1 h1 h2)
    have S2 := Lib.hid (fun A B c d W h1 h2 => r_samePoints A B L2 c d W n2 h1 h2)
    have S3 := Lib.hid (fun A B c d W h1 h2 => r_sameMarks A B L3 c d W n3 h1 h2)
    have P1 := Lib.hid P1
    have P2 := Lib.hid P2
    have P3 := Lib.hid P3
    have P4 := Lib.hid P4
    have P5 := Lib.hid P5
    have P6 := Lib.hid P6
    have P7 := Lib.hid P7
    have P8 := Lib.hid P8
    have N3 := Lib.hid n3
    clear hR n1 n2 n3
    by_cases hE : E = 0
    · subst hE
      have HV := Lib.hid (n4 rfl)
      clear n4
      go_enter Try.func11, Try.ntmps11
      go_wp2_with (first
        | (go_at_call 41; ((with_reducible refine (P1.out _ (below_refl _)).mono ?_); rintro e w1 ⟨v1, rfl, ⟨A1, c1, rfl, hr1⟩, hb1⟩; have B1 : Below w.heap.size w w1 := (by (repeat' (first | assumption | exact below_refl _ | refine bl_alloc ?_ _ | refine Below.setCell ?_ ?_ _ | refine below_draw ?_ | refine below_drewN ?_ _ | refine below_tr ?_ (by assumption))) <;> (first | omega | (simp; done) | (simp; omega)))))
        | (go_at_call 42; ((with_reducible refine (P2.out _ B1).mono ?_); rintro e w2 ⟨v2, rfl, ⟨A2, c2, rfl, hr2⟩, hb2⟩; have B2 : Below w.heap.size w w2 := (by (repeat' (first | assumption | exact below_refl _ | refine bl_alloc ?_ _ | refine Below.setCell ?_ ?_ _ | refine below_draw ?_ | refine below_drewN ?_ _ | refine below_tr ?_ (by assumption))) <;> (first | omega | (simp; done) | (simp; omega))); have hr1b := hr1.on hb2))
        | ((go_at_call 43; ((with_reducible refine (S1.out _ _ _ _ _ hr1b hr2).mono ?_); rintro e w3 ⟨rfl, hb3⟩; obtain ⟨hc3, hf3⟩ := bcell hb3; have hz3 := hb3.size; (try simp [sz_drew, sz_drewN] at hz3); (try simp only [sz_drew, sz_drewN] at hc3 hf3))); have B3 : Below w.heap.size w w3 := (by (repeat' (first | assumption | exact below_refl _ | refine bl_alloc ?_ _ | refine Below.setCell ?_ ?_ _ | refine below_draw ?_ | refine below_drewN ?_ _ | refine below_tr ?_ (by assumption))) <;> (first | omega | (simp; done) | (simp; omega))))
        | ((go_at_call 44; ((with_reducible refine (P5.out _ B3).mono ?_); rintro e w4 ⟨rfl, hb4⟩; obtain ⟨hc4, hf4⟩ := bcell hb4; have hz4 := hb4.size; (try simp [sz_drew, sz_drewN] at hz4); (try simp only [sz_drew, sz_drewN] at hc4 hf4))); have B4 : Below w.heap.size w w4 := (by (repeat' (first | assumption | exact below_refl _ | refine bl_alloc ?_ _ | refine Below.setCell ?_ ?_ _ | refine below_draw ?_ | refine below_drewN ?_ _ | refine below_tr ?_ (by assumption))) <;> (first | omega | (simp; done) | (simp; omega))))
        | ((go_at_call 45; ((with_reducible refine (P6.out _ B4).mono ?_); rintro e w5 ⟨rfl, hb5⟩; obtain ⟨hc5, hf5⟩ := bcell hb5; have hz5 := hb5.size; (try simp [sz_drew, sz_drewN] at hz5); (try simp only [sz_drew, sz_drewN] at hc5 hf5))); have B5 : Below w.heap.size w w5 := (by (repeat' (first | assumption | exact below_refl _ | refine bl_alloc ?_ _ | refine Below.setCell ?_ ?_ _ | refine below_draw ?_ | refine below_drewN ?_ _ | refine below_tr ?_ (by assumption))) <;> (first | omega | (simp; done) | (simp; omega))))
        | (go_at_call 46; ((with_reducible refine (P3.out _ B5).mono ?_); rintro e w6 ⟨v6, rfl, ⟨A6, c6, rfl, hr6⟩, hb6⟩; have B6 : Below w.heap.size w w6 := (by (repeat' (first | assumption | exact below_refl _ | refine bl_alloc ?_ _ | refine Below.setCell ?_ ?_ _ | refine below_draw ?_ | refine below_drewN ?_ _ | refine below_tr ?_ (by assumption))) <;> (first | omega | (simp; done) | (simp; omega)))))
        | (go_at_call 47; ((with_reducible refine (P4.out _ B6).mono ?_); rintro e w7 ⟨v7, rfl, ⟨A7, c7, rfl, hr7⟩, hb7⟩; have B7 : Below w.heap.size w w7 := (by (repeat' (first | assumption | exact below_refl _ | refine bl_alloc ?_ _ | refine Below.setCell ?_ ?_ _ | refine below_draw ?_ | refine below_drewN ?_ _ | refine below_tr ?_ (by assumption))) <;> (first | omega | (simp; done) | (simp; omega))); have hr6b := hr6.on hb7))
        | ((go_at_call 43; ((with_reducible refine (S2.out _ _ _ _ _ hr6b hr7).mono ?_); rintro e w8 ⟨rfl, hb8⟩; obtain ⟨hc8, hf8⟩ := bcell hb8; have hz8 := hb8.size; (try simp [sz_drew, sz_drewN] at hz8); (try simp only [sz_drew, sz_drewN] at hc8 hf8))); have B8 : Below w.heap.size w w8 := (by (repeat' (first | assumption | exact below_refl _ | refine bl_alloc ?_ _ | refine Below.setCell ?_ ?_ _ | refine below_draw ?_ | refine below_drewN ?_ _ | refine below_tr ?_ (by assumption))) <;> (first | omega | (simp; done) | (simp; omega))))
        | (go_at_call 48; ((with_reducible refine (P7.out _ B8).mono ?_); rintro e w6b ⟨v6b, rfl, ⟨A6b, c6b, rfl, hr6b'⟩, hb6b⟩; have B6b : Below w.heap.size w w6b := (by (repeat' (first | assumption | exact below_refl _ | refine bl_alloc ?_ _ | refine Below.setCell ?_ ?_ _ | refine below_draw ?_ | refine below_drewN ?_ _ | refine below_tr ?_ (by assumption))) <;> (first | omega | (simp; done) | (simp; omega)))))
        | (go_at_call 49; ((with_reducible refine (P8.out _ B6b).mono ?_); rintro e w7b ⟨v7b, rfl, ⟨A7b, c7b, rfl, hr7b⟩, hb7b⟩; have B7b : Below w.heap.size w w7b := (by (repeat' (first | assumption | exact below_refl _ | refine bl_alloc ?_ _ | refine Below.setCell ?_ ?_ _ | refine below_draw ?_ | refine below_drewN ?_ _ | refine below_tr ?_ (by assumption))) <;> (first | omega | (simp; done) | (simp; omega))); have hr6c := hr6b'.on hb7b))
        | ((go_at_call 50; ((with_reducible refine (S3.out _ _ _ _ _ hr6c hr7b).mono ?_); rintro e w8b ⟨rfl, hb8b⟩; obtain ⟨hc8b, hf8b⟩ := bcell hb8b; have hz8b := hb8b.size; (try simp [sz_drew, sz_drewN] at hz8b); (try simp only [sz_drew, sz_drewN] at hc8b hf8b))); have B8b : Below w.heap.size w w8b := (by (repeat' (first | assumption | exact below_refl _ | refine bl_alloc ?_ _ | refine Below.setCell ?_ ?_ _ | refine below_draw ?_ | refine below_drewN ?_ _ | refine below_tr ?_ (by assumption))) <;> (first | omega | (simp; done) | (simp; omega)))))
      have hr6d := hr6c.on hb8b
      have hr7d := hr7b.on hb8b
      have PT := Lib.hid (p_Turned_q HV.out N3.out)
      clear hb1 hb2 hb3 hb4 hb5 hb6 hb7 hb8 hb6b hb7b hb8b
      go_loopw [10, 11] (fun v i wr => ∃ (j : Nat) (A' : Option Addr) (c' : Nat), j ≤ 4 ∧ i = .int .i64 j ∧ v = .slice A' L3.length c' ∧ Below w.heap.size w wr ∧ Rd Mk.cs 3 wr A' (qs j L3) ∧ Rd Mk.cs 3 wr A6b L3) (fun _ i _ => 4 - (intOf i).toNat)
      case atStart => exact ⟨0, _, _, by omega, rfl, rfl, B8b, hr7d, hr6d⟩
      case round =>
        obtain ⟨j, A', c', hj, rfl, rfl, hbw, hq, hm⟩ := hrel
        have j0 : (0 : Int) ≤ (j : Int) := Int.natCast_nonneg _
        by_cases hlt : j < 4
        · have j1 : (j : Int) < 4 := by omega
          go_wp2_with (go_at_call 48; ((with_reducible refine (PT.out j _ _ _ hq).mono ?_); rintro e w9 ⟨A9, c9, rfl, hr9, hb9⟩))
          go_roundw
          case rel => exact ⟨j + 1, A9, c9, by omega, by go_num, rfl, by (repeat' (first | assumption | exact below_refl _ | refine bl_alloc ?_ _ | refine Below.setCell ?_ ?_ _ | refine below_draw ?_ | refine below_drewN ?_ _ | refine below_tr ?_ (by assumption))) <;> (first | omega | (simp; done) | (simp; omega)), hr9, hm.on hb9⟩
          case measure => simp [intOf]; omega
        · obtain rfl : j = 4 := by omega
          rw [qs_four] at hq
          go_wp2_with (first
            | (go_at_call 50; ((with_reducible refine (S3.out _ _ _ _ _ hm hq).mono ?_); rintro e w10 ⟨rfl, hb10⟩; obtain ⟨hc10, hf10⟩ := bcell hb10; have hz10 := hb10.size; (try simp [sz_drew, sz_drewN] at hz10); (try simp only [sz_drew, sz_drewN] at hc10 hf10)))
            | (go_at_call 17; ((with_reducible refine (p_awake _).mono ?_); rintro e w11 ⟨rfl, hb11⟩; obtain ⟨hc11, hf11⟩ := bcell hb11; have hz11 := hb11.size; (try simp [sz_drew, sz_drewN] at hz11); (try simp only [sz_drew, sz_drewN] at hc11 hf11))))
          go_ret
          exact ⟨rfl, by (repeat' (first | assumption | exact below_refl _ | refine bl_alloc ?_ _ | refine Below.setCell ?_ ?_ _ | refine below_draw ?_ | refine below_drewN ?_ _ | refine below_tr ?_ (by assumption))) <;> (first | omega | (simp; done) | (simp; omega))⟩
    · have t1 : (E != 0) = true := by simpa using hE
      clear n4
      go_enter Try.func11, Try.ntmps11
      go_wp2_with (first
        | (go_at_call 41; ((with_reducible refine (P1.out _ (below_refl _)).mono ?_); rintro e w1 ⟨v1, rfl, ⟨A1, c1, rfl, hr1⟩, hb1⟩; have B1 : Below w.heap.size w w1 := (by (repeat' (first | assumption | exact below_refl _ | refine bl_alloc ?_ _ | refine Below.setCell ?_ ?_ _ | refine below_draw ?_ | refine below_drewN ?_ _ | refine below_tr ?_ (by assumption))) <;> (first | omega | (simp; done) | (simp; omega)))))
        | (go_at_call 42; ((with_reducible refine (P2.out _ B1).mono ?_); rintro e w2 ⟨v2, rfl, ⟨A2, c2, rfl, hr2⟩, hb2⟩; have B2 : Below w.heap.size w w2 := (by (repeat' (first | assumption | exact below_refl _ | refine bl_alloc ?_ _ | refine Below.setCell ?_ ?_ _ | refine below_draw ?_ | refine below_drewN ?_ _ | refine below_tr ?_ (by assumption))) <;> (first | omega | (simp; done) | (simp; omega))); have hr1b := hr1.on hb2))
        | ((go_at_call 43; ((with_reducible refine (S1.out _ _ _ _ _ hr1b hr2).mono ?_); rintro e w3 ⟨rfl, hb3⟩; obtain ⟨hc3, hf3⟩ := bcell hb3; have hz3 := hb3.size; (try simp [sz_drew, sz_drewN] at hz3); (try simp only [sz_drew, sz_drewN] at hc3 hf3))); have B3 : Below w.heap.size w w3 := (by (repeat' (first | assumption | exact below_refl _ | refine bl_alloc ?_ _ | refine Below.setCell ?_ ?_ _ | refine below_draw ?_ | refine below_drewN ?_ _ | refine below_tr ?_ (by assumption))) <;> (first | omega | (simp; done) | (simp; omega))))
        | ((go_at_call 44; ((with_reducible refine (P5.out _ B3).mono ?_); rintro e w4 ⟨rfl, hb4⟩; obtain ⟨hc4, hf4⟩ := bcell hb4; have hz4 := hb4.size; (try simp [sz_drew, sz_drewN] at hz4); (try simp only [sz_drew, sz_drewN] at hc4 hf4))); have B4 : Below w.heap.size w w4 := (by (repeat' (first | assumption | exact below_refl _ | refine bl_alloc ?_ _ | refine Below.setCell ?_ ?_ _ | refine below_draw ?_ | refine below_drewN ?_ _ | refine below_tr ?_ (by assumption))) <;> (first | omega | (simp; done) | (simp; omega))))
        | ((go_at_call 45; ((with_reducible refine (P6.out _ B4).mono ?_); rintro e w5 ⟨rfl, hb5⟩; obtain ⟨hc5, hf5⟩ := bcell hb5; have hz5 := hb5.size; (try simp [sz_drew, sz_drewN] at hz5); (try simp only [sz_drew, sz_drewN] at hc5 hf5))); have B5 : Below w.heap.size w w5 := (by (repeat' (first | assumption | exact below_refl _ | refine bl_alloc ?_ _ | refine Below.setCell ?_ ?_ _ | refine below_draw ?_ | refine below_drewN ?_ _ | refine below_tr ?_ (by assumption))) <;> (first | omega | (simp; done) | (simp; omega))))
        | (go_at_call 46; ((with_reducible refine (P3.out _ B5).mono ?_); rintro e w6 ⟨v6, rfl, ⟨A6, c6, rfl, hr6⟩, hb6⟩; have B6 : Below w.heap.size w w6 := (by (repeat' (first | assumption | exact below_refl _ | refine bl_alloc ?_ _ | refine Below.setCell ?_ ?_ _ | refine below_draw ?_ | refine below_drewN ?_ _ | refine below_tr ?_ (by assumption))) <;> (first | omega | (simp; done) | (simp; omega)))))
        | (go_at_call 47; ((with_reducible refine (P4.out _ B6).mono ?_); rintro e w7 ⟨v7, rfl, ⟨A7, c7, rfl, hr7⟩, hb7⟩; have B7 : Below w.heap.size w w7 := (by (repeat' (first | assumption | exact below_refl _ | refine bl_alloc ?_ _ | refine Below.setCell ?_ ?_ _ | refine below_draw ?_ | refine below_drewN ?_ _ | refine below_tr ?_ (by assumption))) <;> (first | omega | (simp; done) | (simp; omega))); have hr6b := hr6.on hb7))
        | ((go_at_call 43; ((with_reducible refine (S2.out _ _ _ _ _ hr6b hr7).mono ?_); rintro e w8 ⟨rfl, hb8⟩; obtain ⟨hc8, hf8⟩ := bcell hb8; have hz8 := hb8.size; (try simp [sz_drew, sz_drewN] at hz8); (try simp only [sz_drew, sz_drewN] at hc8 hf8))); have B8 : Below w.heap.size w w8 := (by (repeat' (first | assumption | exact below_refl _ | refine bl_alloc ?_ _ | refine Below.setCell ?_ ?_ _ | refine below_draw ?_ | refine below_drewN ?_ _ | refine below_tr ?_ (by assumption))) <;> (first | omega | (simp; done) | (simp; omega))))
        | (go_at_call 48; ((with_reducible refine (P7.out _ B8).mono ?_); rintro e w6b ⟨v6b, rfl, ⟨A6b, c6b, rfl, hr6b'⟩, hb6b⟩; have B6b : Below w.heap.size w w6b := (by (repeat' (first | assumption | exact below_refl _ | refine bl_alloc ?_ _ | refine Below.setCell ?_ ?_ _ | refine below_draw ?_ | refine below_drewN ?_ _ | refine below_tr ?_ (by assumption))) <;> (first | omega | (simp; done) | (simp; omega)))))
        | (go_at_call 49; ((with_reducible refine (P8.out _ B6b).mono ?_); rintro e w7b ⟨v7b, rfl, ⟨A7b, c7b, rfl, hr7b⟩, hb7b⟩; have B7b : Below w.heap.size w w7b := (by (repeat' (first | assumption | exact below_refl _ | refine bl_alloc ?_ _ | refine Below.setCell ?_ ?_ _ | refine below_draw ?_ | refine below_drewN ?_ _ | refine below_tr ?_ (by assumption))) <;> (first | omega | (simp; done) | (simp; omega))); have hr6c := hr6b'.on hb7b))
        | ((go_at_call 50; ((with_reducible refine (S3.out _ _ _ _ _ hr6c hr7b).mono ?_); rintro e w8b ⟨rfl, hb8b⟩; obtain ⟨hc8b, hf8b⟩ := bcell hb8b; have hz8b := hb8b.size; (try simp [sz_drew, sz_drewN] at hz8b); (try simp only [sz_drew, sz_drewN] at hc8b hf8b))); have B8b : Below w.heap.size w w8b := (by (repeat' (first | assumption | exact below_refl _ | refine bl_alloc ?_ _ | refine Below.setCell ?_ ?_ _ | refine below_draw ?_ | refine below_drewN ?_ _ | refine below_tr ?_ (by assumption))) <;> (first | omega | (simp; done) | (simp; omega))))
        | (go_at_call 17; ((with_reducible refine (p_awake _).mono ?_); rintro e w9 ⟨rfl, hb9⟩; obtain ⟨hc9, hf9⟩ := bcell hb9; have hz9 := hb9.size; (try simp [sz_drew, sz_drewN] at hz9); (try simp only [sz_drew, sz_drewN] at hc9 hf9))))
      go_ret
      exact ⟨rfl, by (repeat' (first | assumption | exact below_refl _ | refine bl_alloc ?_ _ | refine Below.setCell ?_ ?_ _ | refine below_draw ?_ | refine below_drewN ?_ _ | refine below_tr ?_ (by assumption))) <;> (first | omega | (simp; done) | (simp; omega))⟩
theorem l_surveysF (A : Option Addr) (l : List Mk) (c : Nat) (q : Int) (w : World) (hl : l.length ≤ maxLen) (hR : Rd Mk.cs 3 w A l) (_ : ∀ p ∈ l, I64 p.h ∧ I64 p.e ∧ I64 p.n) (_ : (Lit.int .i64 q).wf = true) :
    Calls Try.prog 11 #[.slice A l.length c, .int .i64 q] w fun e w' => e = .returned (.bool true) ∧ Below w.heap.size w w' := l_surveys A l c q w hl hR
end Go.Proofs.Ytohbejdfaecghaa
