/- Lean: Moved by the reference; LeanMoves walked. -/
import Derived.Test.YtohbejdfaecghaaLpf
set_option linter.unusedSimpArgs false
set_option linter.unusedVariables false
namespace Go.Proofs.Ytohbejdfaecghaa
open Go.RowKit

theorem r_apart (x y b : Int) (w : World) (x0 : -1000000 ≤ x) (x1 : x ≤ 1000000) (y0 : -1000000 ≤ y) (y1 : y ≤ 1000000) :
    Calls Try.prog 78 #[.int .i64 x, .int .i64 y, .int .i64 b] w fun e w' => e = .returned (.bool (decide (b < x - y) || decide (b < y - x))) ∧ w = w' := by
  by_cases h1 : b < x - y
  · have t1 : decide (b < x - y) = true := by simpa using h1
    go_enter Try.func78, Try.ntmps78
    go_wp2
    go_ret
    exact ⟨ret_bool (by simp [h1]), rfl⟩
  · have t1 : decide (b < x - y) = false := by simpa using h1
    go_enter Try.func78, Try.ntmps78
    go_wp2
    go_ret
    exact ⟨ret_bool (by simp [h1]), rfl⟩
theorem apB_eq (x y b : Int) : apB x y b = (decide (b < x - y) || decide (b < y - x)) := by
  unfold apB wn
  rw [Bool.eq_iff_iff]
  simp
  omega
theorem r_apartB {x y b : Int} {r : Bool} (h : apB x y b = r) (w : World) (k : Nat) (x0 : -1000000 ≤ x) (x1 : x ≤ 1000000) (y0 : -1000000 ≤ y) (y1 : y ≤ 1000000) :
    Calls Try.prog 78 #[.int .i64 x, .int .i64 y, .int .i64 b] (w.drewN k) fun e w' => e = .returned (.bool r) ∧ ∃ m, w' = w.drewN m :=
  (r_apart x y b _ x0 x1 y0 y1).mono fun _ _ ⟨he, hw⟩ => ⟨by rw [he, ← h, apB_eq], k, hw.symm⟩
set_option maxHeartbeats 4000000 in
set_option maxRecDepth 20000 in
theorem r_Moved (A B : Option Addr) (a b : List Mk) (c d : Nat) (y : Int) (w : World) (ha : a.length ≤ 100000) (hb : b.length ≤ 100000) (hA : Rd Mk.cs 3 w A a) (hB : Rd Mk.cs 3 w B b) (hy : I64 y) :
    Calls Try.prog 35 #[.slice A a.length c, .slice B b.length d, .int .i64 y] w fun e w' => ∃ v, e = .returned (.tuple #[v, .int .i64 (mvE a b y)]) ∧ GotM w w' v a b y ∧ Below w.heap.size w w' := by
  have HV := Lib.hid (fun W (h : Below w.heap.size w W) => r_validM A a c W ha (hA.on h))
  have HU := Lib.hid (fun W (h : Below w.heap.size w W) => r_validM B b d W hb (hB.on h))
  cases hva : vldM a
  · have HE := Lib.hid (mv_1 (a := a) (b := b) (y := y) (by simp [hva]))
    go_enter Try.func35, Try.ntmps35
    go_wp2_with (go_at_call 45; ((with_reducible refine (calls_bool hva (HV.out _ (below_refl _))).mono ?_); rintro e w1 ⟨rfl, hb1⟩; obtain ⟨hc1, hf1⟩ := bcell hb1; have hz1 := hb1.size; (try simp [sz_drew, sz_drewN] at hz1); (try simp only [sz_drew, sz_drewN] at hc1 hf1)))
    go_ret2
    exact ⟨_, by rw [HE.out]; rfl, gotM_no HE.out (by decide), by (repeat' (first | assumption | exact below_refl _ | refine bl_alloc ?_ _ | refine Below.setCell ?_ ?_ _ | refine below_draw ?_ | refine below_drewN ?_ _ | refine below_tr ?_ (by assumption))) <;> (first | omega | (simp; done) | (simp; omega))⟩
  cases hvb : vldM b
  · have HE := Lib.hid (mv_1 (a := a) (b := b) (y := y) (by simp [hvb]))
    go_enter Try.func35, Try.ntmps35
    go_wp2_with (first
      | ((go_at_call 45; ((with_reducible refine (calls_bool hva (HV.out _ (below_refl _))).mono ?_); rintro e w1 ⟨rfl, hb1⟩; obtain ⟨hc1, hf1⟩ := bcell hb1; have hz1 := hb1.size; (try simp [sz_drew, sz_drewN] at hz1); (try simp only [sz_drew, sz_drewN] at hc1 hf1))); have B1 : Below w.heap.size w w1 := (by (repeat' (first | assumption | exact below_refl _ | refine bl_alloc ?_ _ | refine Below.setCell ?_ ?_ _ | refine below_draw ?_ | refine below_drewN ?_ _ | refine below_tr ?_ (by assumption))) <;> (first | omega | (simp; done) | (simp; omega))))
      | (go_at_call 45; ((with_reducible refine (calls_bool hvb (HU.out _ B1)).mono ?_); rintro e w2 ⟨rfl, hb2⟩; obtain ⟨hc2, hf2⟩ := bcell hb2; have hz2 := hb2.size; (try simp [sz_drew, sz_drewN] at hz2); (try simp only [sz_drew, sz_drewN] at hc2 hf2))))
    go_ret2
    exact ⟨_, by rw [HE.out]; rfl, gotM_no HE.out (by decide), by (repeat' (first | assumption | exact below_refl _ | refine bl_alloc ?_ _ | refine Below.setCell ?_ ?_ _ | refine below_draw ?_ | refine below_drewN ?_ _ | refine below_tr ?_ (by assumption))) <;> (first | omega | (simp; done) | (simp; omega))⟩
  cases hwy : wn y 0 10000
  · have HE := Lib.hid (mv_7 (a := a) (b := b) (y := y) ⟨hva, hvb⟩ hwy)
    have HW := Lib.hid (r_withinV hwy)
    go_enter Try.func35, Try.ntmps35
    go_wp2_with (first
      | ((go_at_call 45; ((with_reducible refine (calls_bool hva (HV.out _ (below_refl _))).mono ?_); rintro e w1 ⟨rfl, hb1⟩; obtain ⟨hc1, hf1⟩ := bcell hb1; have hz1 := hb1.size; (try simp [sz_drew, sz_drewN] at hz1); (try simp only [sz_drew, sz_drewN] at hc1 hf1))); have B1 : Below w.heap.size w w1 := (by (repeat' (first | assumption | exact below_refl _ | refine bl_alloc ?_ _ | refine Below.setCell ?_ ?_ _ | refine below_draw ?_ | refine below_drewN ?_ _ | refine below_tr ?_ (by assumption))) <;> (first | omega | (simp; done) | (simp; omega))))
      | ((go_at_call 45; ((with_reducible refine (calls_bool hvb (HU.out _ B1)).mono ?_); rintro e w2 ⟨rfl, hb2⟩; obtain ⟨hc2, hf2⟩ := bcell hb2; have hz2 := hb2.size; (try simp [sz_drew, sz_drewN] at hz2); (try simp only [sz_drew, sz_drewN] at hc2 hf2))); have B2 : Below w.heap.size w w2 := (by (repeat' (first | assumption | exact below_refl _ | refine bl_alloc ?_ _ | refine Below.setCell ?_ ?_ _ | refine below_draw ?_ | refine below_drewN ?_ _ | refine below_tr ?_ (by assumption))) <;> (first | omega | (simp; done) | (simp; omega))))
      | (go_at_call 70; ((with_reducible refine (HW.out _).mono ?_); rintro e w' ⟨rfl, rfl⟩)))
    go_ret2
    exact ⟨_, by rw [HE.out]; rfl, gotM_no HE.out (by decide), by (repeat' (first | assumption | exact below_refl _ | refine bl_alloc ?_ _ | refine Below.setCell ?_ ?_ _ | refine below_draw ?_ | refine below_drewN ?_ _ | refine below_tr ?_ (by assumption))) <;> (first | omega | (simp; done) | (simp; omega))⟩
  have HW := Lib.hid (r_withinV hwy)
  by_cases hl : a.length = b.length
  rotate_left
  · have HE := Lib.hid (mv_9 (a := a) (b := b) (y := y) ⟨hva, hvb⟩ hwy hl)
    have t1 : ((a.length : Int) != (b.length : Int)) = true := by simp; omega
    go_enter Try.func35, Try.ntmps35
    go_wp2_with (first
      | ((go_at_call 45; ((with_reducible refine (calls_bool hva (HV.out _ (below_refl _))).mono ?_); rintro e w1 ⟨rfl, hb1⟩; obtain ⟨hc1, hf1⟩ := bcell hb1; have hz1 := hb1.size; (try simp [sz_drew, sz_drewN] at hz1); (try simp only [sz_drew, sz_drewN] at hc1 hf1))); have B1 : Below w.heap.size w w1 := (by (repeat' (first | assumption | exact below_refl _ | refine bl_alloc ?_ _ | refine Below.setCell ?_ ?_ _ | refine below_draw ?_ | refine below_drewN ?_ _ | refine below_tr ?_ (by assumption))) <;> (first | omega | (simp; done) | (simp; omega))))
      | ((go_at_call 45; ((with_reducible refine (calls_bool hvb (HU.out _ B1)).mono ?_); rintro e w2 ⟨rfl, hb2⟩; obtain ⟨hc2, hf2⟩ := bcell hb2; have hz2 := hb2.size; (try simp [sz_drew, sz_drewN] at hz2); (try simp only [sz_drew, sz_drewN] at hc2 hf2))); have B2 : Below w.heap.size w w2 := (by (repeat' (first | assumption | exact below_refl _ | refine bl_alloc ?_ _ | refine Below.setCell ?_ ?_ _ | refine below_draw ?_ | refine below_drewN ?_ _ | refine below_tr ?_ (by assumption))) <;> (first | omega | (simp; done) | (simp; omega))))
      | (go_at_call 70; ((with_reducible refine (HW.out _).mono ?_); rintro e w' ⟨rfl, rfl⟩)))
    go_ret2
    exact ⟨_, by rw [HE.out]; rfl, gotM_no HE.out (by decide), by (repeat' (first | assumption | exact below_refl _ | refine bl_alloc ?_ _ | refine Below.setCell ?_ ?_ _ | refine below_draw ?_ | refine below_drewN ?_ _ | refine below_tr ?_ (by assumption))) <;> (first | omega | (simp; done) | (simp; omega))⟩
  have H10 := Lib.hid (mv_10 (a := a) (b := b) (y := y) ⟨hva, hvb⟩ hwy hl)
  have H0 := Lib.hid (mv_0 (a := a) (b := b) (y := y) ⟨hva, hvb⟩ hwy hl)
  have t1 : ((a.length : Int) != (b.length : Int)) = false := by simp; omega
  obtain ⟨h1, h2⟩ := vldM_len hva
  obtain ⟨y0, y1⟩ := wn_iff.1 hwy
  have HSA := Lib.hid (fun (k : Nat) (hk : k < a.length) => vldM_sm hva hk)
  have HSB := Lib.hid (fun (k : Nat) (hk : k < b.length) => vldM_sm hvb hk)
  have HL := Lib.hid hl
  obtain ⟨i0, hi, hi1, hi2, hi3⟩ := info_int2
  clear hl
  go_enter Try.func35, Try.ntmps35
  go_wp2_with (first
    | ((go_at_call 45; ((with_reducible refine (calls_bool hva (HV.out _ (below_refl _))).mono ?_); rintro e w1 ⟨rfl, hb1⟩; obtain ⟨hc1, hf1⟩ := bcell hb1; have hz1 := hb1.size; (try simp [sz_drew, sz_drewN] at hz1); (try simp only [sz_drew, sz_drewN] at hc1 hf1))); have B1 : Below w.heap.size w w1 := (by (repeat' (first | assumption | exact below_refl _ | refine bl_alloc ?_ _ | refine Below.setCell ?_ ?_ _ | refine below_draw ?_ | refine below_drewN ?_ _ | refine below_tr ?_ (by assumption))) <;> (first | omega | (simp; done) | (simp; omega))))
    | ((go_at_call 45; ((with_reducible refine (calls_bool hvb (HU.out _ B1)).mono ?_); rintro e w2 ⟨rfl, hb2⟩; obtain ⟨hc2, hf2⟩ := bcell hb2; have hz2 := hb2.size; (try simp [sz_drew, sz_drewN] at hz2); (try simp only [sz_drew, sz_drewN] at hc2 hf2))); have B2 : Below w.heap.size w w2 := (by (repeat' (first | assumption | exact below_refl _ | refine bl_alloc ?_ _ | refine Below.setCell ?_ ?_ _ | refine below_draw ?_ | refine below_drewN ?_ _ | refine below_tr ?_ (by assumption))) <;> (first | omega | (simp; done) | (simp; omega))))
    | (go_at_call 70; ((with_reducible refine (HW.out _).mono ?_); rintro e w' ⟨rfl, rfl⟩)))
  go_loopw [8] (fun i wr => ∃ k : Nat, k ≤ a.length ∧ i = .int .i64 k ∧ Below w.heap.size w wr ∧ Hid (hgE a b k)) (fun i _ => a.length - (intOf i).toNat)
  case atStart => exact ⟨0, by omega, rfl, B2, Lib.hid (fun i h => absurd h (by omega))⟩
  case round =>
    obtain ⟨k, hk, rfl, hbw, HG⟩ := hrel
    by_cases hlt : k < a.length
    · have k0 : (0 : Int) ≤ (k : Int) := Int.natCast_nonneg _
      have k1 : (k : Int) < (a.length : Int) := by omega
      have hlt' : k < b.length := by have := HL.out; omega
      have k2 : (k : Int) < (b.length : Int) := by omega
      obtain ⟨m, ab, off, hx, rfl, hab, c0, c1, c2⟩ := rdM (hA.on hbw) hlt
      obtain ⟨n, bb, off', hz, rfl, hbb, d0, d1, d2⟩ := rdM (hB.on hbw) hlt'
      have HMH := Lib.hid (show (mkAt a k).h = (mkAt b k).h ↔ m.h = n.h by rw [mkAt_of hx, mkAt_of hz])
      clear hx hz
      by_cases hh : m.h = n.h
      · have u1 : (m.h != n.h) = false := by simpa using hh
        have HHG := Lib.hid (hg_step HG.out (HMH.out.2 hh))
        clear hh
        go_wp2
        go_quiet (fail)
        go_wp2
        go_roundw
        case rel => exact ⟨k + 1, by omega, by go_num, below_drewN hbw _, HHG⟩
        case measure => simp [intOf]; omega
      · have u1 : (m.h != n.h) = true := by simpa using hh
        have HE := Lib.hid (H10.out (fun h => hh (HMH.out.1 (h k hlt))))
        clear hh
        go_wp2
        go_quiet (fail)
        go_wp2
        go_ret2
        exact ⟨_, by rw [HE.out]; rfl, gotM_no HE.out (by decide), by (repeat' (first | assumption | exact below_refl _ | refine bl_alloc ?_ _ | refine Below.setCell ?_ ?_ _ | refine below_draw ?_ | refine below_drewN ?_ _ | refine below_tr ?_ (by assumption))) <;> (first | omega | (simp; done) | (simp; omega))⟩
    · obtain rfl : k = a.length := by omega
      have HE := Lib.hid (H0.out HG.out)
      obtain ⟨wo, rfl⟩ : ∃ wo : World, wo = wr := ⟨_, rfl⟩
      go_wp2
      go_loopw [9, 10] (fun v i wr => ∃ k : Nat, k ≤ a.length ∧ i = .int .i64 k ∧ Below w.heap.size w wr ∧ wr.ownsRow w.heap.size 3 1 v (mvN a b y k).length (fl nC (mvN a b y k))) (fun _ i _ => a.length - (intOf i).toNat)
      case atStart => exact ⟨0, by omega, rfl, hbw, World.ownsRow_nil wo _ _ _⟩
      case round =>
        obtain ⟨k, hk, rfl, hbw, hown⟩ := hrel
        obtain ⟨ad, cp, rfl⟩ := own_slice hown
        have hlen := mvN_len a b y k
        by_cases hlt : k < a.length
        · have k0 : (0 : Int) ≤ (k : Int) := Int.natCast_nonneg _
          have k1 : (k : Int) < (a.length : Int) := by omega
          have hlt' : k < b.length := by have := HL.out; omega
          have k2 : (k : Int) < (b.length : Int) := by omega
          obtain ⟨m, ab, off, hx, rfl, hab, c0, c1, c2⟩ := rdM (hA.on hbw) hlt
          obtain ⟨n, bb, off', hz, rfl, hbb, d0, d1, d2⟩ := rdM (hB.on hbw) hlt'
          obtain ⟨m0, m1, m2, m3, m4, m5⟩ := HSA.out k hlt
          obtain ⟨n0, n1, n2, n3, n4, n5⟩ := HSB.out k hlt'
          rw [mkAt_of hx] at m0 m1 m2 m3 m4 m5
          rw [mkAt_of hz] at n0 n1 n2 n3 n4 n5
          have HMB := Lib.hid (show mvB a b y k = (apB m.e n.e y || apB m.n n.n y) by unfold mvB; rw [mkAt_of hx, mkAt_of hz])
          clear hx hz
          cases he : apB m.e n.e y
          · cases hf : apB m.n n.n y
            · have HE1 := Lib.hid (fun W k => r_apartB he W k (by omega) (by omega) (by omega) (by omega))
              have HF1 := Lib.hid (fun W k => r_apartB hf W k (by omega) (by omega) (by omega) (by omega))
              have HST := Lib.hid (mvN_no (show mvB a b y k = false by rw [HMB.out, he, hf]; rfl))
              clear he hf
              go_wp2
              go_quiet ((first | (go_at_call 78; with_reducible exact HE1.out _ _) | (go_at_call 78; with_reducible exact HF1.out _ _)))
              go_wp2
              go_roundw
              case rel => exact ⟨k + 1, by omega, by go_num, below_drewN hbw _, by rw [HST.out]; exact hown⟩
              case measure => simp [intOf]; omega
            · have HE1 := Lib.hid (fun W k => r_apartB he W k (by omega) (by omega) (by omega) (by omega))
              have HF1 := Lib.hid (fun W k => r_apartB hf W k (by omega) (by omega) (by omega) (by omega))
              have HST := Lib.hid (mvN_yes (show mvB a b y k = true by rw [HMB.out, he, hf]; rfl))
              clear he hf
              go_wp2
              go_quiet ((first | (go_at_call 78; with_reducible exact HE1.out _ _) | (go_at_call 78; with_reducible exact HF1.out _ _)))
              go_wp2_with (at_builtin; refine wpList_append_own _ rfl _ _ 54 rfl w.heap.size 3 i0 (.int .i64 0) 1 8 (by kernel_rfl) hi hi1 hi2 hi3 rfl (by omega) _ _ _ rfl ((own_drewN (n := _) hown).alloc _) ⟨wr.heap.size, 0, none⟩ 1 1 [.int .i64 k] rfl rfl (cell_one_new _ _ _) (fun u hu => by simp at hu; subst hu; rfl) (by unfold maxLen; omega) (by omega) (by simp; have := hbw.size; omega) ?_; intro v' w4 hown4 hgrow _)
              go_roundw
              case rel => exact ⟨k + 1, by omega, by go_num, bl_app (below_drewN hbw _) (own_drewN hown) hgrow (Nat.le_refl _) (by show w.heap.size ≤ wr.heap.size; exact hbw.size), by rw [HST.out, fl_snoc, List.length_append]; exact hown4⟩
              case measure => simp [intOf]; omega
          · have HE1 := Lib.hid (fun W k => r_apartB he W k (by omega) (by omega) (by omega) (by omega))
            have HST := Lib.hid (mvN_yes (show mvB a b y k = true by rw [HMB.out, he]; rfl))
            clear he
            go_wp2
            go_quiet ((go_at_call 78; with_reducible exact HE1.out _ _))
            go_wp2_with (at_builtin; refine wpList_append_own _ rfl _ _ 54 rfl w.heap.size 3 i0 (.int .i64 0) 1 8 (by kernel_rfl) hi hi1 hi2 hi3 rfl (by omega) _ _ _ rfl ((own_drewN (n := _) hown).alloc _) ⟨wr.heap.size, 0, none⟩ 1 1 [.int .i64 k] rfl rfl (cell_one_new _ _ _) (fun u hu => by simp at hu; subst hu; rfl) (by unfold maxLen; omega) (by omega) (by simp; have := hbw.size; omega) ?_; intro v' w4 hown4 hgrow _)
            go_roundw
            case rel => exact ⟨k + 1, by omega, by go_num, bl_app (below_drewN hbw _) (own_drewN hown) hgrow (Nat.le_refl _) (by show w.heap.size ≤ wr.heap.size; exact hbw.size), by rw [HST.out, fl_snoc, List.length_append]; exact hown4⟩
            case measure => simp [intOf]; omega
        · obtain rfl : k = a.length := by omega
          go_wp2
          go_ret2
          exact ⟨_, by rw [HE.out]; rfl, gotM_yes HE.out hown, hbw⟩
theorem gotM_rd {w w' : World} {v : Value} {a b : List Mk} {y : Int} (h : GotM w w' v a b y) : ∃ A c, v = .slice A (if mvE a b y = 0 then mvN a b y a.length else []).length c ∧ Rd nC 1 w' A (if mvE a b y = 0 then mvN a b y a.length else []) := by
  unfold GotM at h
  split at h
  · rw [if_pos ‹_›]; exact own_rd nC_len h
  · rw [if_neg ‹_›]; exact ⟨none, 0, h, Rd.nil_⟩
theorem rd_nat {w : World} {A : Option Addr} {l : List Nat} (h : Rd nC 1 w A l) {k : Nat} (hk : k < l.length) :
    ∃ x b off, l[k]? = some x ∧ A = some ⟨b, off, none⟩ ∧ b < w.heap.size ∧ w.cell? ⟨b, off + k, none⟩ = some (.int .i64 (x : Nat)) := by
  obtain ⟨x, hx⟩ := get_lt hk
  obtain ⟨b, off, e, hb, hc⟩ := h.get hx
  have := hc 0 _ rfl
  rw [Nat.mul_one, Nat.add_zero] at this
  exact ⟨x, b, off, hx, e, hb, this⟩

set_option maxHeartbeats 1000000 in
set_option maxRecDepth 20000 in
theorem r_sameNats (A B : Option Addr) (l : List Nat) (c d : Nat) (w : World) (hl : l.length ≤ 100000) (hA : Rd nC 1 w A l) (hB : Rd nC 1 w B l) :
    Calls Try.prog 36 #[.slice A l.length c, .slice B l.length d] w fun e w' => e = .returned (.bool true) ∧ Below w.heap.size w w' := by
  go_enter Try.func36, Try.ntmps36
  go_wp2
  go_loopw [5] (fun i wr => ∃ k : Nat, k ≤ l.length ∧ i = .int .i64 k ∧ Below w.heap.size w wr) (fun i _ => l.length - (intOf i).toNat)
  case atStart => exact ⟨0, by omega, rfl, below_refl _⟩
  case round =>
    obtain ⟨k, hk, rfl, hbw⟩ := hrel
    by_cases hlt : k < l.length
    · obtain ⟨x, b, off, hx, rfl, hb, c0⟩ := rd_nat (hA.on hbw) hlt
      obtain ⟨y, b', off', hy, rfl, hb', d0⟩ := rd_nat (hB.on hbw) hlt
      obtain rfl : x = y := by rw [hx] at hy; exact Option.some.inj hy
      have k0 : (0 : Int) ≤ (k : Int) := Int.natCast_nonneg _
      have k1 : (k : Int) < (l.length : Int) := by omega
      clear hx hy
      go_wp2
      go_quiet (fail)
      go_wp2
      go_roundw
      case rel => exact ⟨k + 1, by omega, by go_num, below_drewN hbw _⟩
      case measure => simp [intOf]; omega
    · obtain rfl : k = l.length := by omega
      go_wp2
      go_ret
      exact ⟨rfl, hbw⟩
set_option maxHeartbeats 2000000 in
set_option maxRecDepth 20000 in
theorem l_moves (A B : Option Addr) (a b : List Mk) (c d : Nat) (y : Int) (w : World) (ha : a.length ≤ maxLen) (hb : b.length ≤ maxLen) (hA : Rd Mk.cs 3 w A a) (hB : Rd Mk.cs 3 w B b) (hy : I64 y) :
    Calls Try.prog 8 #[.slice A a.length c, .slice B b.length d, .int .i64 y] w fun e w' => e = .returned (.bool true) ∧ Below w.heap.size w w' := by
  unfold maxLen at ha hb
  by_cases h1 : 100 < a.length
  · have t1 : decide (100 < a.length) = true := by simpa using h1
    go_enter Try.func8, Try.ntmps8
    go_wp2_with (go_at_call 17; ((with_reducible refine (p_awake _).mono ?_); rintro e w1 ⟨rfl, hb1⟩; obtain ⟨hc1, hf1⟩ := bcell hb1; have hz1 := hb1.size; (try simp [sz_drew, sz_drewN] at hz1); (try simp only [sz_drew, sz_drewN] at hc1 hf1)))
    go_ret
    exact ⟨rfl, by (repeat' (first | assumption | exact below_refl _ | refine bl_alloc ?_ _ | refine Below.setCell ?_ ?_ _ | refine below_draw ?_ | refine below_drewN ?_ _ | refine below_tr ?_ (by assumption))) <;> (first | omega | (simp; done) | (simp; omega))⟩
  · by_cases h2 : 100 < b.length
    · go_enter Try.func8, Try.ntmps8
      go_wp2_with (go_at_call 17; ((with_reducible refine (p_awake _).mono ?_); rintro e w1 ⟨rfl, hb1⟩; obtain ⟨hc1, hf1⟩ := bcell hb1; have hz1 := hb1.size; (try simp [sz_drew, sz_drewN] at hz1); (try simp only [sz_drew, sz_drewN] at hc1 hf1)))
      go_ret
      exact ⟨rfl, by (repeat' (first | assumption | exact below_refl _ | refine bl_alloc ?_ _ | refine Below.setCell ?_ ?_ _ | refine below_draw ?_ | refine below_drewN ?_ _ | refine below_tr ?_ (by assumption))) <;> (first | omega | (simp; done) | (simp; omega))⟩
    · have P1 := fun W (h : Below w.heap.size w W) => p_Moved A B a b c d y W (by omega) (by omega) (hA.on h) (hB.on h) hy
      have P2 := fun W (h : Below w.heap.size w W) => r_Moved A B a b c d y W (by omega) (by omega) (hA.on h) (hB.on h) hy
      have hlen : (if mvE a b y = 0 then mvN a b y a.length else []).length ≤ 100000 := by
        split
        · have := mvN_len a b y a.length; omega
        · simp
      have GR := fun (w w' : World) (v : Value) (h : GotM w w' v a b y) => gotM_rd h
      generalize (if mvE a b y = 0 then mvN a b y a.length else []) = L at *
      generalize mvE a b y = E at *
      have PS := Lib.hid (fun A B c d W h1 h2 => r_sameNats A B L c d W hlen h1 h2)
      have P1 := Lib.hid P1
      have P2 := Lib.hid P2
      have GR := Lib.hid GR
      have HL := Lib.hid hlen
      clear hA hB hlen
      go_enter Try.func8, Try.ntmps8
      go_wp2_with (first
        | (go_at_call 34; ((with_reducible refine (P1.out _ (below_refl _)).mono ?_); rintro e w1 ⟨v1, rfl, ho1, hb1⟩; obtain ⟨A1, c1, rfl, hr1⟩ := GR.out _ _ _ ho1; have B1 : Below w.heap.size w w1 := (by (repeat' (first | assumption | exact below_refl _ | refine bl_alloc ?_ _ | refine Below.setCell ?_ ?_ _ | refine below_draw ?_ | refine below_drewN ?_ _ | refine below_tr ?_ (by assumption))) <;> (first | omega | (simp; done) | (simp; omega)))))
        | (go_at_call 35; ((with_reducible refine (P2.out _ B1).mono ?_); rintro e w2 ⟨v2, rfl, ho2, hb2⟩; obtain ⟨A2, c2, rfl, hr2⟩ := GR.out _ _ _ ho2; have B2 : Below w.heap.size w w2 := (by (repeat' (first | assumption | exact below_refl _ | refine bl_alloc ?_ _ | refine Below.setCell ?_ ?_ _ | refine below_draw ?_ | refine below_drewN ?_ _ | refine below_tr ?_ (by assumption))) <;> (first | omega | (simp; done) | (simp; omega))); have hr3 := hr1.on hb2))
        | ((go_at_call 36; ((with_reducible refine (PS.out _ _ _ _ _ hr3 hr2).mono ?_); rintro e w3 ⟨rfl, hb3⟩; obtain ⟨hc3, hf3⟩ := bcell hb3; have hz3 := hb3.size; (try simp [sz_drew, sz_drewN] at hz3); (try simp only [sz_drew, sz_drewN] at hc3 hf3))))
        | (go_at_call 17; ((with_reducible refine (p_awake _).mono ?_); rintro e w4 ⟨rfl, hb4⟩; obtain ⟨hc4, hf4⟩ := bcell hb4; have hz4 := hb4.size; (try simp [sz_drew, sz_drewN] at hz4); (try simp only [sz_drew, sz_drewN] at hc4 hf4))))
      go_ret
      exact ⟨rfl, by (repeat' (first | assumption | exact below_refl _ | refine bl_alloc ?_ _ | refine Below.setCell ?_ ?_ _ | refine below_draw ?_ | refine below_drewN ?_ _ | refine below_tr ?_ (by assumption))) <;> (first | omega | (simp; done) | (simp; omega))⟩
theorem l_movesF (A : Option Addr) (a : List Mk) (c : Nat) (B : Option Addr) (b : List Mk) (d : Nat) (y : Int) (w : World) (ha : a.length ≤ maxLen) (hA : Rd Mk.cs 3 w A a) (_ : ∀ p ∈ a, I64 p.h ∧ I64 p.e ∧ I64 p.n) (hb : b.length ≤ maxLen) (hB : Rd Mk.cs 3 w B b) (_ : ∀ p ∈ b, I64 p.h ∧ I64 p.e ∧ I64 p.n) (hy : (Lit.int .i64 y).wf = true) :
    Calls Try.prog 8 #[.slice A a.length c, .slice B b.length d, .int .i64 y] w fun e w' => e = .returned (.bool true) ∧ Below w.heap.size w w' := l_moves A B a b c d y w ha hb hA hB (i64_of hy)
end Go.Proofs.Ytohbejdfaecghaa
