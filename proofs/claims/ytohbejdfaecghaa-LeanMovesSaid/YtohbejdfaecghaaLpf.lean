/- Lean: Moved by both; LeanMoves walked. -/
import Derived.Test.YtohbejdfaecghaaOwn
import Derived.Test.YtohbejdfaecghaaLpa
import Derived.Test.YtohbejdfaecghaaLvc
import Derived.Test.YtohbejdfaecghaaLi
set_option linter.unusedSimpArgs false
set_option linter.unusedVariables false
namespace Go.Proofs.Ytohbejdfaecghaa
open Go.RowKit

def apB (x y b : Int) : Bool := !(wn (x - y) (-b) b)
def mvB (a b : List Mk) (by' : Int) (i : Nat) : Bool := apB (mkAt a i).e (mkAt b i).e by' || apB (mkAt a i).n (mkAt b i).n by'
def mvN (a b : List Mk) (by' : Int) (k : Nat) : List Nat := (List.range k).filter (mvB a b by')
def hgE (a b : List Mk) (k : Nat) : Prop := ∀ i, i < k → (mkAt a i).h = (mkAt b i).h
noncomputable def mvE (a b : List Mk) (by' : Int) : Int := by
  classical
  exact if vldM a = true ∧ vldM b = true then (if wn by' 0 10000 = true then (if a.length = b.length then (if hgE a b a.length then 0 else 10) else 9) else 7) else 1
theorem mv_1 {a b : List Mk} {y : Int} (h : ¬ (vldM a = true ∧ vldM b = true)) : mvE a b y = 1 := by unfold mvE; rw [if_neg h]
theorem mv_7 {a b : List Mk} {y : Int} (h : vldM a = true ∧ vldM b = true) (h1 : wn y 0 10000 = false) : mvE a b y = 7 := by unfold mvE; rw [if_pos h, if_neg (by simp [h1])]
theorem mv_9 {a b : List Mk} {y : Int} (h : vldM a = true ∧ vldM b = true) (h1 : wn y 0 10000 = true) (h2 : ¬ a.length = b.length) : mvE a b y = 9 := by unfold mvE; rw [if_pos h, if_pos h1, if_neg h2]
theorem mv_10 {a b : List Mk} {y : Int} (h : vldM a = true ∧ vldM b = true) (h1 : wn y 0 10000 = true) (h2 : a.length = b.length) (h3 : ¬ hgE a b a.length) : mvE a b y = 10 := by unfold mvE; rw [if_pos h, if_pos h1, if_pos h2, if_neg h3]
theorem mv_0 {a b : List Mk} {y : Int} (h : vldM a = true ∧ vldM b = true) (h1 : wn y 0 10000 = true) (h2 : a.length = b.length) (h3 : hgE a b a.length) : mvE a b y = 0 := by unfold mvE; rw [if_pos h, if_pos h1, if_pos h2, if_pos h3]
theorem mvN_yes {a b : List Mk} {y : Int} {k : Nat} (h : mvB a b y k = true) : mvN a b y (k + 1) = mvN a b y k ++ [k] := by
  unfold mvN; rw [List.range_succ, List.filter_append]; simp [h]
theorem mvN_no {a b : List Mk} {y : Int} {k : Nat} (h : mvB a b y k = false) : mvN a b y (k + 1) = mvN a b y k := by
  unfold mvN; rw [List.range_succ, List.filter_append]; simp [h]
theorem mvN_len (a b : List Mk) (y : Int) (k : Nat) : (mvN a b y k).length ≤ k := by
  have := List.length_filter_le (mvB a b y) (List.range k)
  simpa [mvN] using this
theorem hg_step {a b : List Mk} {k : Nat} (h : hgE a b k) (hk : (mkAt a k).h = (mkAt b k).h) : hgE a b (k + 1) := fun i hi => by
  rcases Nat.eq_or_lt_of_le (Nat.le_of_lt_succ hi) with rfl | h1
  · exact hk
  · exact h i h1
theorem vldM_sm {l : List Mk} (h : vldM l = true) {k : Nat} (hk : k < l.length) : SM (mkAt l k) := by
  unfold vldM at h
  rw [Bool.and_eq_true, List.all_eq_true] at h
  have := h.2 k (by simpa using hk)
  unfold okM at this
  rw [Bool.and_eq_true] at this
  exact sm_of this.1
theorem vldM_len {l : List Mk} (h : vldM l = true) : 1 ≤ l.length ∧ l.length ≤ 40 := by
  unfold vldM at h
  rw [Bool.and_eq_true, wn_iff] at h
  omega
theorem info_int2 : ∃ i : TypeInfo, Try.prog.info? 3 = some i ∧ i.zero = some (.int .i64 0) ∧ i.size = 1 ∧ i.bytes = 8 := info_parts (by kernel_rfl)
theorem p_withinV {n lo hi : Int} {b : Bool} (h : wn n lo hi = b) (w : World) : Calls Try.prog 65 #[.int .i64 n, .int .i64 lo, .int .i64 hi] w fun e w' => e = .returned (.bool b) ∧ w = w' := h ▸ p_within n lo hi w
theorem r_withinV {n lo hi : Int} {b : Bool} (h : wn n lo hi = b) (w : World) : Calls Try.prog 70 #[.int .i64 n, .int .i64 lo, .int .i64 hi] w fun e w' => e = .returned (.bool b) ∧ w = w' := h ▸ r_within n lo hi w
/-- what Moved gives back -/
def GotM (w w' : World) (v : Value) (a b : List Mk) (y : Int) : Prop := if mvE a b y = 0 then w'.ownsRow w.heap.size 3 1 v (mvN a b y a.length).length (fl nC (mvN a b y a.length)) else v = .slice none 0 0
theorem gotM_no {w w' : World} {a b : List Mk} {y E : Int} (h : mvE a b y = E) (hE : E ≠ 0) : GotM w w' (.slice none 0 0) a b y := by unfold GotM; rw [h, if_neg hE]
theorem gotM_yes {w w' : World} {v : Value} {a b : List Mk} {y : Int} (h : mvE a b y = 0) (ho : w'.ownsRow w.heap.size 3 1 v (mvN a b y a.length).length (fl nC (mvN a b y a.length))) : GotM w w' v a b y := by unfold GotM; rw [if_pos h]; exact ho
set_option maxHeartbeats 4000000 in
set_option maxRecDepth 20000 in
theorem p_Moved (A B : Option Addr) (a b : List Mk) (c d : Nat) (y : Int) (w : World) (ha : a.length ≤ 100000) (hb : b.length ≤ 100000) (hA : Rd Mk.cs 3 w A a) (hB : Rd Mk.cs 3 w B b) (hy : I64 y) :
    Calls Try.prog 34 #[.slice A a.length c, .slice B b.length d, .int .i64 y] w fun e w' => ∃ v, e = .returned (.tuple #[v, .int .i64 (mvE a b y)]) ∧ GotM w w' v a b y ∧ Below w.heap.size w w' := by
  have HV := Lib.hid (fun W (h : Below w.heap.size w W) => p_validM A a c W ha (hA.on h))
  have HU := Lib.hid (fun W (h : Below w.heap.size w W) => p_validM B b d W hb (hB.on h))
  cases hva : vldM a
  · have HE := Lib.hid (mv_1 (a := a) (b := b) (y := y) (by simp [hva]))
    go_enter Try.func34, Try.ntmps34
    go_wp2_with (go_at_call 44; ((with_reducible refine (calls_bool hva (HV.out _ (below_refl _))).mono ?_); rintro e w1 ⟨rfl, hb1⟩; obtain ⟨hc1, hf1⟩ := bcell hb1; have hz1 := hb1.size; (try simp [sz_drew, sz_drewN] at hz1); (try simp only [sz_drew, sz_drewN] at hc1 hf1)))
    go_ret2
    exact ⟨_, by rw [HE.out]; rfl, gotM_no HE.out (by decide), by (repeat' (first | assumption | exact below_refl _ | refine bl_alloc ?_ _ | refine Below.setCell ?_ ?_ _ | refine below_draw ?_ | refine below_drewN ?_ _ | refine below_tr ?_ (by assumption))) <;> (first | omega | (simp; done) | (simp; omega))⟩
  cases hvb : vldM b
  · have HE := Lib.hid (mv_1 (a := a) (b := b) (y := y) (by simp [hvb]))
    go_enter Try.func34, Try.ntmps34
    go_wp2_with (first
      | ((go_at_call 44; ((with_reducible refine (calls_bool hva (HV.out _ (below_refl _))).mono ?_); rintro e w1 ⟨rfl, hb1⟩; obtain ⟨hc1, hf1⟩ := bcell hb1; have hz1 := hb1.size; (try simp [sz_drew, sz_drewN] at hz1); (try simp only [sz_drew, sz_drewN] at hc1 hf1))); have B1 : Below w.heap.size w w1 := (by (repeat' (first | assumption | exact below_refl _ | refine bl_alloc ?_ _ | refine Below.setCell ?_ ?_ _ | refine below_draw ?_ | refine below_drewN ?_ _ | refine below_tr ?_ (by assumption))) <;> (first | omega | (simp; done) | (simp; omega))))
      | (go_at_call 44; ((with_reducible refine (calls_bool hvb (HU.out _ B1)).mono ?_); rintro e w2 ⟨rfl, hb2⟩; obtain ⟨hc2, hf2⟩ := bcell hb2; have hz2 := hb2.size; (try simp [sz_drew, sz_drewN] at hz2); (try simp only [sz_drew, sz_drewN] at hc2 hf2))))
    go_ret2
    exact ⟨_, by rw [HE.out]; rfl, gotM_no HE.out (by decide), by (repeat' (first | assumption | exact below_refl _ | refine bl_alloc ?_ _ | refine Below.setCell ?_ ?_ _ | refine below_draw ?_ | refine below_drewN ?_ _ | refine below_tr ?_ (by assumption))) <;> (first | omega | (simp; done) | (simp; omega))⟩
  cases hwy : wn y 0 10000
  · have HE := Lib.hid (mv_7 (a := a) (b := b) (y := y) ⟨hva, hvb⟩ hwy)
    have HW := Lib.hid (p_withinV hwy)
    go_enter Try.func34, Try.ntmps34
    go_wp2_with (first
      | ((go_at_call 44; ((with_reducible refine (calls_bool hva (HV.out _ (below_refl _))).mono ?_); rintro e w1 ⟨rfl, hb1⟩; obtain ⟨hc1, hf1⟩ := bcell hb1; have hz1 := hb1.size; (try simp [sz_drew, sz_drewN] at hz1); (try simp only [sz_drew, sz_drewN] at hc1 hf1))); have B1 : Below w.heap.size w w1 := (by (repeat' (first | assumption | exact below_refl _ | refine bl_alloc ?_ _ | refine Below.setCell ?_ ?_ _ | refine below_draw ?_ | refine below_drewN ?_ _ | refine below_tr ?_ (by assumption))) <;> (first | omega | (simp; done) | (simp; omega))))
      | ((go_at_call 44; ((with_reducible refine (calls_bool hvb (HU.out _ B1)).mono ?_); rintro e w2 ⟨rfl, hb2⟩; obtain ⟨hc2, hf2⟩ := bcell hb2; have hz2 := hb2.size; (try simp [sz_drew, sz_drewN] at hz2); (try simp only [sz_drew, sz_drewN] at hc2 hf2))); have B2 : Below w.heap.size w w2 := (by (repeat' (first | assumption | exact below_refl _ | refine bl_alloc ?_ _ | refine Below.setCell ?_ ?_ _ | refine below_draw ?_ | refine below_drewN ?_ _ | refine below_tr ?_ (by assumption))) <;> (first | omega | (simp; done) | (simp; omega))))
      | (go_at_call 65; ((with_reducible refine (HW.out _).mono ?_); rintro e w' ⟨rfl, rfl⟩)))
    go_ret2
    exact ⟨_, by rw [HE.out]; rfl, gotM_no HE.out (by decide), by (repeat' (first | assumption | exact below_refl _ | refine bl_alloc ?_ _ | refine Below.setCell ?_ ?_ _ | refine below_draw ?_ | refine below_drewN ?_ _ | refine below_tr ?_ (by assumption))) <;> (first | omega | (simp; done) | (simp; omega))⟩
  have HW := Lib.hid (p_withinV hwy)
  by_cases hl : a.length = b.length
  rotate_left
  · have HE := Lib.hid (mv_9 (a := a) (b := b) (y := y) ⟨hva, hvb⟩ hwy hl)
    have t1 : ((a.length : Int) != (b.length : Int)) = true := by simp; omega
    go_enter Try.func34, Try.ntmps34
    go_wp2_with (first
      | ((go_at_call 44; ((with_reducible refine (calls_bool hva (HV.out _ (below_refl _))).mono ?_); rintro e w1 ⟨rfl, hb1⟩; obtain ⟨hc1, hf1⟩ := bcell hb1; have hz1 := hb1.size; (try simp [sz_drew, sz_drewN] at hz1); (try simp only [sz_drew, sz_drewN] at hc1 hf1))); have B1 : Below w.heap.size w w1 := (by (repeat' (first | assumption | exact below_refl _ | refine bl_alloc ?_ _ | refine Below.setCell ?_ ?_ _ | refine below_draw ?_ | refine below_drewN ?_ _ | refine below_tr ?_ (by assumption))) <;> (first | omega | (simp; done) | (simp; omega))))
      | ((go_at_call 44; ((with_reducible refine (calls_bool hvb (HU.out _ B1)).mono ?_); rintro e w2 ⟨rfl, hb2⟩; obtain ⟨hc2, hf2⟩ := bcell hb2; have hz2 := hb2.size; (try simp [sz_drew, sz_drewN] at hz2); (try simp only [sz_drew, sz_drewN] at hc2 hf2))); have B2 : Below w.heap.size w w2 := (by (repeat' (first | assumption | exact below_refl _ | refine bl_alloc ?_ _ | refine Below.setCell ?_ ?_ _ | refine below_draw ?_ | refine below_drewN ?_ _ | refine below_tr ?_ (by assumption))) <;> (first | omega | (simp; done) | (simp; omega))))
      | (go_at_call 65; ((with_reducible refine (HW.out _).mono ?_); rintro e w' ⟨rfl, rfl⟩)))
    go_ret2
    exact ⟨_, by rw [HE.out]; rfl, gotM_no HE.out (by decide), by (repeat' (first | assumption | exact below_refl _ | refine bl_alloc ?_ _ | refine Below.setCell ?_ ?_ _ | refine below_draw ?_ | refine below_drewN ?_ _ | refine below_tr ?_ (by assumption))) <;> (first | omega | (simp; done) | (simp; omega))⟩
  have H10 := Lib.hid (mv_10 (a := a) (b := b) (y := y) ⟨hva, hvb⟩ hwy hl)
  have H0 := Lib.hid (mv_0 (a := a) (b := b) (y := y) ⟨hva, hvb⟩ hwy hl)
  have t1 : ((a.length : Int) != (b.length : Int)) = false := by simp; omega
  obtain ⟨h1, h2⟩ := vldM_len hva
  obtain ⟨y0, y1⟩ := wn_iff.1 hwy
  have HSA := Lib.hid (fun (k : Nat) (hk : k < a.length) => vldM_sm hva hk)
  have HSB := Lib.hid (fun (k : Nat) (hk : k < b.length) => vldM_sm hvb hk)
  have HL := Lib.hid hl
  obtain ⟨i0, hi, hi1, hi2, hi3⟩ := info_int2
  clear hl
  go_enter Try.func34, Try.ntmps34
  go_wp2_with (first
    | ((go_at_call 44; ((with_reducible refine (calls_bool hva (HV.out _ (below_refl _))).mono ?_); rintro e w1 ⟨rfl, hb1⟩; obtain ⟨hc1, hf1⟩ := bcell hb1; have hz1 := hb1.size; (try simp [sz_drew, sz_drewN] at hz1); (try simp only [sz_drew, sz_drewN] at hc1 hf1))); have B1 : Below w.heap.size w w1 := (by (repeat' (first | assumption | exact below_refl _ | refine bl_alloc ?_ _ | refine Below.setCell ?_ ?_ _ | refine below_draw ?_ | refine below_drewN ?_ _ | refine below_tr ?_ (by assumption))) <;> (first | omega | (simp; done) | (simp; omega))))
    | ((go_at_call 44; ((with_reducible refine (calls_bool hvb (HU.out _ B1)).mono ?_); rintro e w2 ⟨rfl, hb2⟩; obtain ⟨hc2, hf2⟩ := bcell hb2; have hz2 := hb2.size; (try simp [sz_drew, sz_drewN] at hz2); (try simp only [sz_drew, sz_drewN] at hc2 hf2))); have B2 : Below w.heap.size w w2 := (by (repeat' (first | assumption | exact below_refl _ | refine bl_alloc ?_ _ | refine Below.setCell ?_ ?_ _ | refine below_draw ?_ | refine below_drewN ?_ _ | refine below_tr ?_ (by assumption))) <;> (first | omega | (simp; done) | (simp; omega))))
    | (go_at_call 65; ((with_reducible refine (HW.out _).mono ?_); rintro e w' ⟨rfl, rfl⟩)))
  go_loopw [8, 33] (fun v i wr => ∃ k : Nat, k ≤ a.length ∧ i = .int .i64 k ∧ Below w.heap.size w wr ∧ Hid (hgE a b k) ∧ wr.ownsRow w.heap.size 3 1 v (mvN a b y k).length (fl nC (mvN a b y k))) (fun _ i _ => a.length - (intOf i).toNat)
  case atStart => exact ⟨0, by omega, rfl, B2, Lib.hid (fun i h => absurd h (by omega)), World.ownsRow_nil w2 _ _ _⟩
  case round =>
    obtain ⟨k, hk, rfl, hbw, HG, hown⟩ := hrel
    obtain ⟨ad, cp, rfl⟩ := own_slice hown
    have hlen := mvN_len a b y k
    by_cases hlt : k < a.length
    · have k0 : (0 : Int) ≤ (k : Int) := Int.natCast_nonneg _
      have k1 : (k : Int) < (a.length : Int) := by omega
      have hlt' : k < b.length := by have := HL.out; omega
      have k2 : (k : Int) < (b.length : Int) := by omega
      obtain ⟨m, ab, off, hx, rfl, hab, c0, c1, c2⟩ := rdM (hA.on hbw) hlt
      obtain ⟨n, bb, off', hz, rfl, hbb, d0, d1, d2⟩ := rdM (hB.on hbw) hlt'
      obtain ⟨m0, m1, m2, m3, m4, m5⟩ := HSA.out k hlt
      obtain ⟨n0, n1, n2, n3, n4, n5⟩ := HSB.out k hlt'
      rw [mkAt_of hx] at m0 m1 m2 m3 m4 m5
      rw [mkAt_of hz] at n0 n1 n2 n3 n4 n5
      have HMB := Lib.hid (show mvB a b y k = (apB m.e n.e y || apB m.n n.n y) by unfold mvB; rw [mkAt_of hx, mkAt_of hz])
      have HMH := Lib.hid (show (mkAt a k).h = (mkAt b k).h ↔ m.h = n.h by rw [mkAt_of hx, mkAt_of hz])
      have na : ab ≠ wr.heap.size := by omega
      have nb : bb ≠ wr.heap.size := by omega
      clear hx hz
      by_cases hh : m.h = n.h
      · have u1 : (m.h != n.h) = false := by simpa using hh
        have HHG := Lib.hid (hg_step HG.out (HMH.out.2 hh))
        clear hh
        cases he : wn (m.e - n.e) (-y) y
        · have HE := Lib.hid (p_withinV he)
          have HST := Lib.hid (mvN_yes (show mvB a b y k = true by rw [HMB.out]; simp [apB, he]))
          clear he
          go_wp2_with (first
            | (go_at_call 65; ((with_reducible refine (HE.out _).mono ?_); rintro e w' ⟨rfl, rfl⟩))
            | (at_builtin; refine wpList_append_own _ rfl _ _ 54 rfl w.heap.size 3 i0 (.int .i64 0) 1 8 (by kernel_rfl) hi hi1 hi2 hi3 rfl (by omega) _ _ _ rfl (((hown.alloc _).alloc _).alloc _) ⟨wr.heap.size + 1 + 1, 0, none⟩ 1 1 [.int .i64 k] rfl rfl (by have := cells_new ((wr.alloc (.cells #[.int .i64 m.h, .int .i64 m.e, .int .i64 m.n] 48)).alloc (.cells #[.int .i64 n.h, .int .i64 n.e, .int .i64 n.n] 48)) [.int .i64 k] 3; simp only [World.size_alloc] at this; exact this) (fun u hu => by simp at hu; subst hu; rfl) (by unfold maxLen; omega) (by omega) (by simp; have := hbw.size; omega) ?_; intro v' w4 hown4 hgrow _))
          go_roundw
          case rel => exact ⟨k + 1, by omega, by go_num, bl_app (bl_alloc (bl_alloc hbw _) _) ((hown.alloc _).alloc _) hgrow (Nat.le_refl _) (by simp; have := hbw.size; omega), HHG, by rw [HST.out, fl_snoc, List.length_append]; exact hown4⟩
          case measure => simp [intOf]; omega
        · have HE := Lib.hid (p_withinV he)
          cases hf : wn (m.n - n.n) (-y) y
          · have HF := Lib.hid (p_withinV hf)
            have HST := Lib.hid (mvN_yes (show mvB a b y k = true by rw [HMB.out]; simp [apB, he, hf]))
            clear he hf
            go_wp2_with (first
              | (go_at_call 65; ((with_reducible refine (HE.out _).mono ?_); rintro e w' ⟨rfl, rfl⟩))
              | (go_at_call 65; ((with_reducible refine (HF.out _).mono ?_); rintro e w' ⟨rfl, rfl⟩))
              | (at_builtin; refine wpList_append_own _ rfl _ _ 54 rfl w.heap.size 3 i0 (.int .i64 0) 1 8 (by kernel_rfl) hi hi1 hi2 hi3 rfl (by omega) _ _ _ rfl (((hown.alloc _).alloc _).alloc _) ⟨wr.heap.size + 1 + 1, 0, none⟩ 1 1 [.int .i64 k] rfl rfl (by have := cells_new ((wr.alloc (.cells #[.int .i64 m.h, .int .i64 m.e, .int .i64 m.n] 48)).alloc (.cells #[.int .i64 n.h, .int .i64 n.e, .int .i64 n.n] 48)) [.int .i64 k] 3; simp only [World.size_alloc] at this; exact this) (fun u hu => by simp at hu; subst hu; rfl) (by unfold maxLen; omega) (by omega) (by simp; have := hbw.size; omega) ?_; intro v' w4 hown4 hgrow _))
            go_roundw
            case rel => exact ⟨k + 1, by omega, by go_num, bl_app (bl_alloc (bl_alloc hbw _) _) ((hown.alloc _).alloc _) hgrow (Nat.le_refl _) (by simp; have := hbw.size; omega), HHG, by rw [HST.out, fl_snoc, List.length_append]; exact hown4⟩
            case measure => simp [intOf]; omega
          · have HF := Lib.hid (p_withinV hf)
            have HST := Lib.hid (mvN_no (show mvB a b y k = false by rw [HMB.out]; simp [apB, he, hf]))
            clear he hf
            go_wp2_with (first
              | (go_at_call 65; ((with_reducible refine (HE.out _).mono ?_); rintro e w' ⟨rfl, rfl⟩))
              | (go_at_call 65; ((with_reducible refine (HF.out _).mono ?_); rintro e w' ⟨rfl, rfl⟩)))
            go_roundw
            case rel => exact ⟨k + 1, by omega, by go_num, by (repeat' (first | assumption | exact below_refl _ | refine bl_alloc ?_ _ | refine Below.setCell ?_ ?_ _ | refine below_draw ?_ | refine below_drewN ?_ _ | refine below_tr ?_ (by assumption))) <;> (first | omega | (simp; done) | (simp; omega)), HHG, by rw [HST.out]; exact (hown.alloc _).alloc _⟩
            case measure => simp [intOf]; omega
      · have u1 : (m.h != n.h) = true := by simpa using hh
        have HE := Lib.hid (H10.out (fun h => hh (HMH.out.1 (h k hlt))))
        clear hh
        go_wp2
        go_ret2
        exact ⟨_, by rw [HE.out]; rfl, gotM_no HE.out (by decide), by (repeat' (first | assumption | exact below_refl _ | refine bl_alloc ?_ _ | refine Below.setCell ?_ ?_ _ | refine below_draw ?_ | refine below_drewN ?_ _ | refine below_tr ?_ (by assumption))) <;> (first | omega | (simp; done) | (simp; omega))⟩
    · obtain rfl : k = a.length := by omega
      have HE := Lib.hid (H0.out HG.out)
      go_wp2
      go_ret2
      exact ⟨_, by rw [HE.out]; rfl, gotM_yes HE.out hown, hbw⟩
end Go.Proofs.Ytohbejdfaecghaa
