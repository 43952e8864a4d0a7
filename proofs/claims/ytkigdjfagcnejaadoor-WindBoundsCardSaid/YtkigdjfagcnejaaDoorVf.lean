/- Wind: forecasts: ValidCasts by both. -/
import Derived.Test.YtkigdjfagcnejaaDoorVe
set_option linter.unusedSimpArgs false
set_option linter.unusedVariables false
namespace Go.Proofs.YtkigdjfagcnejaaDoor
open Go.RowKit

structure Ca where
  f : Int
  t : Int
  lo : Int
  hi : Int
def Ca.cs (x : Ca) : List Value := [.int .i64 x.f, .int .i64 x.t, .int .i64 x.lo, .int .i64 x.hi]
abbrev caV (x : Ca) : Value := .agg #[.int .i64 x.f, .int .i64 x.t, .int .i64 x.lo, .int .i64 x.hi]
theorem Ca.cs_len (a : Ca) : a.cs.length = 4 := rfl
def caAt (c : List Ca) (k : Nat) : Ca := c[k]?.getD ⟨0, 0, 0, 0⟩
theorem caAt_of {l : List Ca} {i : Nat} {p : Ca} (h : l[i]? = some p) : caAt l i = p := by simp [caAt, h]
theorem rdCa {w : World} {A : Option Addr} {l : List Ca} (h : Rd Ca.cs 4 w A l) {k : Nat} (hk : k < l.length) :
    ∃ x b off, l[k]? = some x ∧ A = some ⟨b, off, none⟩ ∧ b < w.heap.size ∧ w.cell? ⟨b, off + k * 4, none⟩ = some (.int .i64 x.f) ∧ w.cell? ⟨b, off + k * 4 + 1, none⟩ = some (.int .i64 x.t) ∧ w.cell? ⟨b, off + k * 4 + 2, none⟩ = some (.int .i64 x.lo) ∧ w.cell? ⟨b, off + k * 4 + 3, none⟩ = some (.int .i64 x.hi) := by
  obtain ⟨x, hx⟩ := get_lt hk
  obtain ⟨b, off, e, hb, hc⟩ := h.get hx
  exact ⟨x, b, off, hx, e, hb, hc 0 _ rfl, hc 1 _ rfl, hc 2 _ rfl, hc 3 _ rfl⟩
/-- a cast that is sound; and it does not begin before the one ahead of it ends -/
def okC (c : List Ca) (k : Nat) : Bool := decide (0 ≤ (caAt c k).f) && (decide ((caAt c k).f < (caAt c k).t) && (decide ((caAt c k).t ≤ 100000) && (wn (caAt c k).lo 0 (caAt c k).hi && (decide ((caAt c k).hi ≤ 200) && (decide (k = 0) || decide ((caAt c (k - 1)).t ≤ (caAt c k).f))))))
def vCa (c : List Ca) : Bool := (List.range c.length).all (okC c) && decide (c.length ≤ 200)
theorem okC_iff {c : List Ca} {k : Nat} : okC c k = true ↔ 0 ≤ (caAt c k).f ∧ (caAt c k).f < (caAt c k).t ∧ (caAt c k).t ≤ 100000 ∧ (0 ≤ (caAt c k).lo ∧ (caAt c k).lo ≤ (caAt c k).hi) ∧ (caAt c k).hi ≤ 200 ∧ (k = 0 ∨ (caAt c (k - 1)).t ≤ (caAt c k).f) := by
  unfold okC; simp [wn]
/-- what a valid forecast says -/
theorem vca {c : List Ca} (h : vCa c = true) : c.length ≤ 200 ∧ ∀ k, k < c.length → okC c k = true := by
  unfold vCa at h
  rw [Bool.and_eq_true, List.all_eq_true] at h
  exact ⟨by simpa using h.2, fun k hk => h.1 k (by simpa using hk)⟩
theorem vCa_no {c : List Ca} {k : Nat} (hk : k < c.length) (h : ¬ okC c k = true) : vCa c = false := by
  unfold vCa
  rw [Bool.and_eq_false_iff]; left
  rw [List.all_eq_false]
  exact ⟨k, by simpa using hk, h⟩
set_option maxHeartbeats 4000000 in
set_option maxRecDepth 20000 in
theorem p_ValidCasts (A : Option Addr) (l : List Ca) (c : Nat) (w : World) (hl : l.length ≤ 100000) (hR : Rd Ca.cs 4 w A l) :
    Calls Tryd.prog 21 #[.slice A l.length c] w fun e w' => e = .returned (.bool (vCa l)) ∧ Below w.heap.size w w' := by
  go_enter Tryd.func21, Tryd.ntmps21
  go_wp2
  go_loopw [7] (fun i wr => ∃ k : Nat, k ≤ l.length ∧ i = .int .i64 k ∧ Below w.heap.size w wr ∧ Hid ((List.range k).all (okC l) = true)) (fun i _ => l.length - (intOf i).toNat)
  case atStart => exact ⟨0, by omega, rfl, below_refl _, Lib.hid rfl⟩
  case round =>
    obtain ⟨k, hk, rfl, hbw, HI⟩ := hrel
    have k0 : (0 : Int) ≤ (k : Int) := Int.natCast_nonneg _
    by_cases hlt : k < l.length
    · have k1 : (k : Int) < (l.length : Int) := by omega
      obtain ⟨x, b, off, hx, rfl, hb, c0, c1, c2, c3⟩ := rdCa (hR.on hbw) hlt
      have HO := Lib.hid (okC_iff (c := l) (k := k))
      rw [caAt_of hx] at HO
      have hpv : 0 < k → ∃ y : Ca, caAt l (k - 1) = y ∧ ∃ q : Nat, IntKind.i64.wrap ((k : Int) - 1) = (q : Int) ∧ (0 : Int) ≤ (q : Int) ∧ (q : Int) < (l.length : Int) ∧ wr.cell? ⟨b, off + q * 4 + 1, none⟩ = some (.int .i64 y.t) := fun hk0 => by
        obtain ⟨y, b', off', hy, e, _, _, d1, _⟩ := rdCa (hR.on hbw) (show k - 1 < l.length by omega)
        cases e
        exact ⟨y, caAt_of hy, k - 1, by rw [fits_wrap ⟨by omega, by omega⟩]; omega, by omega, by omega, d1⟩
      have bA := bl_alloc hbw (.cells #[.int .i64 x.f, .int .i64 x.t, .int .i64 x.lo, .int .i64 x.hi] 78)
      have hbn : b ≠ wr.heap.size := by omega
      have HNO := Lib.hid (fun (h : ¬ okC l k = true) => vCa_no hlt h)
      have HYES := Lib.hid (fun (h : okC l k = true) => show (List.range (k + 1)).all (okC l) = true by rw [List.range_succ, List.all_append, HI.out]; simp [h])
      clear hx
      by_cases h0 : x.f < 0
      · go_wp2
        go_quiet (fail)
        go_wp2
        go_ret
        exact ⟨ret_bool (by rw [HNO.out (by rw [HO.out]; omega)]), below_drewN bA _⟩
      have n0 : decide (x.f < 0) = false := decide_eq_false h0
      by_cases h1 : x.t ≤ x.f
      · go_wp2
        go_quiet (fail)
        go_wp2
        go_ret
        exact ⟨ret_bool (by rw [HNO.out (by rw [HO.out]; omega)]), below_drewN bA _⟩
      have n1 : decide (x.t ≤ x.f) = false := decide_eq_false h1
      by_cases h2 : 100000 < x.t
      · go_wp2
        go_quiet (fail)
        go_wp2
        go_ret
        exact ⟨ret_bool (by rw [HNO.out (by rw [HO.out]; omega)]), below_drewN bA _⟩
      have n2 : decide (100000 < x.t) = false := decide_eq_false h2
      cases hw : wn x.lo 0 x.hi
      · have hw2 : ¬ (0 ≤ x.lo ∧ x.lo ≤ x.hi) := fun h => by rw [wn_iff.2 h] at hw; cases hw
        go_wp2
        go_quiet ((go_at_call 55; with_reducible exact quiet_left (p_withinV hw _)))
        go_wp2
        go_ret
        exact ⟨ret_bool (by rw [HNO.out (by rw [HO.out]; omega)]), below_drewN bA _⟩
      have hw2 := wn_iff.1 hw
      by_cases h4 : 200 < x.hi
      · go_wp2
        go_quiet ((go_at_call 55; with_reducible exact quiet_left (p_withinV hw _)))
        go_wp2
        go_ret
        exact ⟨ret_bool (by rw [HNO.out (by rw [HO.out]; omega)]), below_drewN bA _⟩
      have n4 : decide (200 < x.hi) = false := decide_eq_false h4
      by_cases hk0 : 0 < k
      · obtain ⟨y, hy, q, hwr, q0, q1, d1⟩ := hpv hk0
        rw [hy] at HO
        by_cases h9 : x.f < y.t
        · go_wp2
          go_quiet ((go_at_call 55; with_reducible exact quiet_left (p_withinV hw _)))
          go_wp2
          go_ret
          exact ⟨ret_bool (by rw [HNO.out (by rw [HO.out]; omega)]), below_drewN bA _⟩
        · have n9 : decide (x.f < y.t) = false := decide_eq_false h9
          go_wp2
          go_quiet ((go_at_call 55; with_reducible exact quiet_left (p_withinV hw _)))
          go_wp2
          go_roundw
          case rel => exact ⟨k + 1, by omega, by go_num, below_drewN bA _, HYES.out (by rw [HO.out]; omega)⟩
          case measure => simp [intOf]; omega
      · have n8 : decide (0 < k) = false := decide_eq_false hk0
        go_wp2
        go_quiet ((go_at_call 55; with_reducible exact quiet_left (p_withinV hw _)))
        go_wp2
        go_roundw
        case rel => exact ⟨k + 1, by omega, by go_num, below_drewN bA _, HYES.out (by rw [HO.out]; omega)⟩
        case measure => simp [intOf]; omega
    · obtain rfl : k = l.length := by omega
      go_wp2
      go_ret
      exact ⟨ret_bool (by unfold vCa; rw [HI.out, Bool.true_and]; simp; omega), hbw⟩
set_option maxHeartbeats 4000000 in
set_option maxRecDepth 20000 in
theorem r_ValidCasts (A : Option Addr) (l : List Ca) (c : Nat) (w : World) (hl : l.length ≤ 100000) (hR : Rd Ca.cs 4 w A l) :
    Calls Tryd.prog 22 #[.slice A l.length c] w fun e w' => e = .returned (.bool (vCa l)) ∧ Below w.heap.size w w' := by
  go_enter Tryd.func22, Tryd.ntmps22
  go_wp2
  go_loopw [3] (fun i wr => ∃ k : Nat, k ≤ l.length ∧ i = .int .i64 k ∧ Below w.heap.size w wr ∧ Hid ((List.range k).all (okC l) = true)) (fun i _ => l.length - (intOf i).toNat)
  case atStart => exact ⟨0, by omega, rfl, below_refl _, Lib.hid rfl⟩
  case round =>
    obtain ⟨k, hk, rfl, hbw, HI⟩ := hrel
    have k0 : (0 : Int) ≤ (k : Int) := Int.natCast_nonneg _
    by_cases hlt : k < l.length
    · have k1 : (k : Int) < (l.length : Int) := by omega
      obtain ⟨x, b, off, hx, rfl, hb, c0, c1, c2, c3⟩ := rdCa (hR.on hbw) hlt
      have HO := Lib.hid (okC_iff (c := l) (k := k))
      rw [caAt_of hx] at HO
      have hpv : 0 < k → ∃ y : Ca, caAt l (k - 1) = y ∧ ∃ q : Nat, IntKind.i64.wrap ((k : Int) - 1) = (q : Int) ∧ (0 : Int) ≤ (q : Int) ∧ (q : Int) < (l.length : Int) ∧ wr.cell? ⟨b, off + q * 4 + 1, none⟩ = some (.int .i64 y.t) := fun hk0 => by
        obtain ⟨y, b', off', hy, e, _, _, d1, _⟩ := rdCa (hR.on hbw) (show k - 1 < l.length by omega)
        cases e
        exact ⟨y, caAt_of hy, k - 1, by rw [fits_wrap ⟨by omega, by omega⟩]; omega, by omega, by omega, d1⟩
      have bA := bl_alloc hbw (.cells #[.int .i64 x.f, .int .i64 x.t, .int .i64 x.lo, .int .i64 x.hi] 78)
      have hbn : b ≠ wr.heap.size := by omega
      have HNO := Lib.hid (fun (h : ¬ okC l k = true) => vCa_no hlt h)
      have HYES := Lib.hid (fun (h : okC l k = true) => show (List.range (k + 1)).all (okC l) = true by rw [List.range_succ, List.all_append, HI.out]; simp [h])
      clear hx
      by_cases h0 : x.f < 0
      · go_wp2
        go_quiet (fail)
        go_wp2
        go_ret
        exact ⟨ret_bool (by rw [HNO.out (by rw [HO.out]; omega)]), below_drewN bA _⟩
      have n0 : decide (x.f < 0) = false := decide_eq_false h0
      by_cases h1 : x.t ≤ x.f
      · go_wp2
        go_quiet (fail)
        go_wp2
        go_ret
        exact ⟨ret_bool (by rw [HNO.out (by rw [HO.out]; omega)]), below_drewN bA _⟩
      have n1 : decide (x.t ≤ x.f) = false := decide_eq_false h1
      by_cases h2 : 100000 < x.t
      · go_wp2
        go_quiet (fail)
        go_wp2
        go_ret
        exact ⟨ret_bool (by rw [HNO.out (by rw [HO.out]; omega)]), below_drewN bA _⟩
      have n2 : decide (100000 < x.t) = false := decide_eq_false h2
      by_cases h3 : x.lo < 0
      · go_wp2
        go_quiet (fail)
        go_wp2
        go_ret
        exact ⟨ret_bool (by rw [HNO.out (by rw [HO.out]; omega)]), below_drewN bA _⟩
      have n3 : decide (x.lo < 0) = false := decide_eq_false h3
      by_cases h4 : x.hi < x.lo
      · go_wp2
        go_quiet (fail)
        go_wp2
        go_ret
        exact ⟨ret_bool (by rw [HNO.out (by rw [HO.out]; omega)]), below_drewN bA _⟩
      have n4 : decide (x.hi < x.lo) = false := decide_eq_false h4
      by_cases h5 : 200 < x.hi
      · go_wp2
        go_quiet (fail)
        go_wp2
        go_ret
        exact ⟨ret_bool (by rw [HNO.out (by rw [HO.out]; omega)]), below_drewN bA _⟩
      have n5 : decide (200 < x.hi) = false := decide_eq_false h5
      by_cases hk0 : 0 < k
      · obtain ⟨y, hy, q, hwr, q0, q1, d1⟩ := hpv hk0
        rw [hy] at HO
        by_cases h9 : x.f < y.t
        · go_wp2
          go_quiet (fail)
          go_wp2
          go_ret
          exact ⟨ret_bool (by rw [HNO.out (by rw [HO.out]; omega)]), below_drewN bA _⟩
        · have n9 : decide (x.f < y.t) = false := decide_eq_false h9
          go_wp2
          go_quiet (fail)
          go_wp2
          go_roundw
          case rel => exact ⟨k + 1, by omega, by go_num, below_drewN bA _, HYES.out (by rw [HO.out]; omega)⟩
          case measure => simp [intOf]; omega
      · have n8 : decide (0 < k) = false := decide_eq_false hk0
        go_wp2
        go_quiet (fail)
        go_wp2
        go_roundw
        case rel => exact ⟨k + 1, by omega, by go_num, below_drewN bA _, HYES.out (by rw [HO.out]; omega)⟩
        case measure => simp [intOf]; omega
    · obtain rfl : k = l.length := by omega
      go_wp2
      go_ret
      exact ⟨ret_bool (by unfold vCa; rw [HI.out, Bool.true_and]; simp; omega), hbw⟩
theorem p_ValidCastsV {A : Option Addr} {l : List Ca} {c : Nat} {w : World} {b : Bool} (h : vCa l = b) (hl : l.length ≤ 100000) (hR : Rd Ca.cs 4 w A l) :
    Calls Tryd.prog 21 #[.slice A l.length c] w fun e w' => e = .returned (.bool b) ∧ Below w.heap.size w w' := h ▸ p_ValidCasts A l c w hl hR
theorem r_ValidCastsV {A : Option Addr} {l : List Ca} {c : Nat} {w : World} {b : Bool} (h : vCa l = b) (hl : l.length ≤ 100000) (hR : Rd Ca.cs 4 w A l) :
    Calls Tryd.prog 22 #[.slice A l.length c] w fun e w' => e = .returned (.bool b) ∧ Below w.heap.size w w' := h ▸ r_ValidCasts A l c w hl hR
end Go.Proofs.YtkigdjfagcnejaaDoor
