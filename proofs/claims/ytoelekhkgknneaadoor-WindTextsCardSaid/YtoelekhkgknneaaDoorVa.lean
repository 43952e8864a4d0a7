/- Wind: rules, gusts: within, ValidRule, ValidGusts by both. -/
import Derived.Test.YtoelekhkgknneaaDoorCom
set_option linter.unusedSimpArgs false
set_option linter.unusedVariables false
namespace Go.Proofs.YtoelekhkgknneaaDoor
open Go.RowKit

structure Ru where
  s : Int
  g : Int
  c : Int
abbrev ruV (r : Ru) : Value := .agg #[.int .i64 r.s, .int .i64 r.g, .int .i64 r.c]
theorem p_within (n lo hi : Int) (w : World) :
    Calls Tryd.prog 92 #[.int .i64 n, .int .i64 lo, .int .i64 hi] w fun e w' => e = .returned (.bool (wn n lo hi)) ∧ w = w' := by
  by_cases h1 : lo ≤ n
  · have t1 : decide (lo ≤ n) = true := by simpa using h1
    go_enter Tryd.func92, Tryd.ntmps92
    go_wp2
    go_ret
    exact ⟨ret_bool (by simp [wn, h1]), rfl⟩
  · have t1 : decide (lo ≤ n) = false := by simpa using h1
    go_enter Tryd.func92, Tryd.ntmps92
    go_wp2
    go_ret
    exact ⟨ret_bool (by unfold wn; rw [t1]; rfl), rfl⟩
theorem p_withinV {n lo hi : Int} {b : Bool} (h : wn n lo hi = b) (w : World) : Calls Tryd.prog 92 #[.int .i64 n, .int .i64 lo, .int .i64 hi] w fun e w' => e = .returned (.bool b) ∧ w = w' := h ▸ p_within n lo hi w
theorem r_within (n lo hi : Int) (w : World) :
    Calls Tryd.prog 56 #[.int .i64 n, .int .i64 lo, .int .i64 hi] w fun e w' => e = .returned (.bool (wn n lo hi)) ∧ w = w' := by
  by_cases h1 : lo ≤ n
  · have t1 : decide (lo ≤ n) = true := by simpa using h1
    go_enter Tryd.func56, Tryd.ntmps56
    go_wp2
    go_ret
    exact ⟨ret_bool (by simp [wn, h1]), rfl⟩
  · have t1 : decide (lo ≤ n) = false := by simpa using h1
    go_enter Tryd.func56, Tryd.ntmps56
    go_wp2
    go_ret
    exact ⟨ret_bool (by unfold wn; rw [t1]; rfl), rfl⟩
theorem r_withinV {n lo hi : Int} {b : Bool} (h : wn n lo hi = b) (w : World) : Calls Tryd.prog 56 #[.int .i64 n, .int .i64 lo, .int .i64 hi] w fun e w' => e = .returned (.bool b) ∧ w = w' := h ▸ r_within n lo hi w
def vRu (r : Ru) : Bool := wn r.s 1 200 && (wn r.g 1 r.s && wn r.c 1 240)
def vGu (l : List Int) : Bool := l.all (fun x => wn x (-1) 200) && decide (l.length ≤ 2000)
/-- what a valid rule says -/
theorem vru {r : Ru} (h : vRu r = true) : 1 ≤ r.s ∧ r.s ≤ 200 ∧ 1 ≤ r.g ∧ r.g ≤ r.s ∧ 1 ≤ r.c ∧ r.c ≤ 240 := by
  unfold vRu at h
  rw [Bool.and_eq_true, Bool.and_eq_true, wn_iff, wn_iff, wn_iff] at h
  omega
theorem vgu {l : List Int} (h : vGu l = true) : l.length ≤ 2000 ∧ ∀ (k : Nat) (x : Int), l[k]? = some x → -1 ≤ x ∧ x ≤ 200 := by
  unfold vGu at h
  rw [Bool.and_eq_true, List.all_eq_true] at h
  exact ⟨by simpa using h.2, fun k x hx => wn_iff.1 (h.1 x (List.mem_of_getElem? hx))⟩
theorem p_ValidRule (r : Ru) (w : World) : Calls Tryd.prog 127 #[ruV r] w fun e w' => e = .returned (.bool (vRu r)) ∧ Below w.heap.size w w' := by
  have HB := Lib.hid (show vRu r = (wn r.s 1 200 && (wn r.g 1 r.s && wn r.c 1 240)) from rfl)
  cases h1 : wn r.s 1 200
  · go_enter Tryd.func127, Tryd.ntmps127
    go_wp2_with (go_at_call 92; ((with_reducible refine (p_withinV h1 _).mono ?_); rintro e w' ⟨rfl, rfl⟩))
    go_ret
    exact ⟨ret_bool (by rw [HB.out, h1]; rfl), bl_alloc (below_refl _) _⟩
  cases h2 : wn r.g 1 r.s
  · go_enter Tryd.func127, Tryd.ntmps127
    go_wp2_with (first | (go_at_call 92; ((with_reducible refine (p_withinV h1 _).mono ?_); rintro e w' ⟨rfl, rfl⟩)) | (go_at_call 92; ((with_reducible refine (p_withinV h2 _).mono ?_); rintro e w' ⟨rfl, rfl⟩)))
    go_ret
    exact ⟨ret_bool (by rw [HB.out, h1, h2]; rfl), bl_alloc (below_refl _) _⟩
  · cases h3 : wn r.c 1 240
    all_goals
      go_enter Tryd.func127, Tryd.ntmps127
      go_wp2_with (first | (go_at_call 92; ((with_reducible refine (p_withinV h1 _).mono ?_); rintro e w' ⟨rfl, rfl⟩)) | (go_at_call 92; ((with_reducible refine (p_withinV h2 _).mono ?_); rintro e w' ⟨rfl, rfl⟩)) | (go_at_call 92; ((with_reducible refine (p_withinV h3 _).mono ?_); rintro e w' ⟨rfl, rfl⟩)))
      go_ret
      exact ⟨ret_bool (by rw [HB.out, h1, h2, h3]; rfl), bl_alloc (below_refl _) _⟩
theorem p_ValidRuleV {r : Ru} {b : Bool} (h : vRu r = b) (w : World) : Calls Tryd.prog 127 #[ruV r] w fun e w' => e = .returned (.bool b) ∧ Below w.heap.size w w' := h ▸ p_ValidRule r w
theorem any_ngu (l : List Int) : (l.any fun x => !wn x (-1) 200) = !l.all fun x => wn x (-1) 200 := by induction l <;> simp_all
theorem p_ValidGusts1 (n : Int) (w : World) : Calls Tryd.prog 91 #[.int .i64 n] w fun e w' => e = .returned (.bool (!wn n (-1) 200)) ∧ Below w.heap.size w w' := by
  go_enter Tryd.func91, Tryd.ntmps91
  go_wp2_with (go_at_call 92; ((with_reducible refine (p_within n (-1) 200 _).mono ?_); rintro e w' ⟨rfl, rfl⟩))
  go_ret
  exact ⟨rfl, below_refl _⟩
theorem p_ValidGusts (A : Option Addr) (l : List Int) (c : Nat) (w : World) (hl : l.length ≤ 100000) (hR : Rd zC 1 w A l) :
    Calls Tryd.prog 53 #[.slice A l.length c] w fun e w' => e = .returned (.bool (vGu l)) ∧ Below w.heap.size w w' := by
  have HC := Lib.hid (c_containsZ A l c (fun x => !wn x (-1) 200) 91 #[] w hl hR (enters_of Tryd.func91 (by kernel_rfl) rfl) (fun V x _ _ => p_ValidGusts1 x V))
  rw [any_ngu] at HC
  have HB := Lib.hid (show vGu l = (l.all (fun x => wn x (-1) 200) && decide (l.length ≤ 2000)) from rfl)
  clear hR
  by_cases h1 : (l.length : Int) ≤ 2000
  · go_enter Tryd.func53, Tryd.ntmps53
    go_wp2_with (go_at_call 90; refine HC.out.mono ?_; rintro e w' ⟨rfl, hb⟩)
    go_ret
    exact ⟨ret_bool (by rw [HB.out, decide_eq_true (show l.length ≤ 2000 by omega)]; simp), hb⟩
  · go_enter Tryd.func53, Tryd.ntmps53
    go_wp2
    go_ret
    exact ⟨ret_bool (by rw [HB.out, decide_eq_false (show ¬ l.length ≤ 2000 by omega)]; simp), below_refl _⟩
theorem p_ValidGustsV {A : Option Addr} {l : List Int} {c : Nat} {w : World} {b : Bool} (h : vGu l = b) (hl : l.length ≤ 100000) (hR : Rd zC 1 w A l) :
    Calls Tryd.prog 53 #[.slice A l.length c] w fun e w' => e = .returned (.bool b) ∧ Below w.heap.size w w' := h ▸ p_ValidGusts A l c w hl hR
theorem r_ValidGusts (A : Option Addr) (l : List Int) (c : Nat) (w : World) (hl : l.length ≤ 100000) (hR : Rd zC 1 w A l) :
    Calls Tryd.prog 22 #[.slice A l.length c] w fun e w' => e = .returned (.bool (vGu l)) ∧ w = w' := by
  have HB := Lib.hid (show vGu l = (l.all (fun x => wn x (-1) 200) && decide (l.length ≤ 2000)) from rfl)
  go_enter Tryd.func22, Tryd.ntmps22
  go_wp2
  go_loop [3] (fun i => ∃ k : Nat, k ≤ l.length ∧ i = .int .i64 k ∧ Hid ((l.take k).all (fun x => wn x (-1) 200) = true)) (fun i => l.length - (intOf i).toNat)
  case atStart => exact ⟨0, by omega, rfl, Lib.hid rfl⟩
  case round =>
    obtain ⟨k, hk, rfl, HI⟩ := hrel
    have k0 : (0 : Int) ≤ (k : Int) := Int.natCast_nonneg _
    by_cases hlt : k < l.length
    · have k1 : (k : Int) < (l.length : Int) := by omega
      obtain ⟨x, b, off, hx, rfl, hb, c0⟩ := rd_int hR hlt
      have HX := Lib.hid hx
      clear hx
      cases ho : wn x (-1) 200
      · have HA := Lib.hid (show l.all (fun x => wn x (-1) 200) = false by rw [List.all_eq_false]; exact ⟨x, List.mem_of_getElem? HX.out, by rw [ho]; simp⟩)
        go_wp2_with (go_at_call 56; ((with_reducible refine (r_withinV ho _).mono ?_); rintro e w' ⟨rfl, rfl⟩))
        go_ret
        exact ⟨ret_bool (by rw [HB.out, HA.out]; rfl), rfl⟩
      · have HA := Lib.hid (show (l.take (k + 1)).all (fun x => wn x (-1) 200) = true by rw [List.take_add_one, HX.out, List.all_append, HI.out]; simp [ho])
        go_wp2_with (go_at_call 56; ((with_reducible refine (r_withinV ho _).mono ?_); rintro e w' ⟨rfl, rfl⟩))
        go_round
        case rel => exact ⟨k + 1, by omega, by go_num, HA⟩
        case measure => simp [intOf]; omega
    · obtain rfl : k = l.length := by omega
      have HA := Lib.hid (show l.all (fun x => wn x (-1) 200) = true by have := HI.out; rwa [List.take_length] at this)
      go_wp2
      go_ret
      exact ⟨ret_bool (by rw [HB.out, HA.out, Bool.true_and]; simp; omega), rfl⟩
theorem r_ValidGustsV {A : Option Addr} {l : List Int} {c : Nat} {w : World} {b : Bool} (h : vGu l = b) (hl : l.length ≤ 100000) (hR : Rd zC 1 w A l) :
    Calls Tryd.prog 22 #[.slice A l.length c] w fun e w' => e = .returned (.bool b) ∧ w = w' := h ▸ r_ValidGusts A l c w hl hR
/-- asked -/
def aE (r : Ru) (l : List Int) : Int := if (vRu r && vGu l) = true then 0 else 1
theorem p_asked (A : Option Addr) (r : Ru) (l : List Int) (c : Nat) (w : World) (hl : l.length ≤ 100000) (hR : Rd zC 1 w A l) :
    Calls Tryd.prog 86 #[ruV r, .slice A l.length c] w fun e w' => e = .returned (.int .i64 (aE r l)) ∧ Below w.heap.size w w' := by
  have HG := Lib.hid (fun b (h : vGu l = b) W (hb : Below w.heap.size w W) => p_ValidGustsV (c := c) h hl (hR.on hb))
  have HE0 := Lib.hid (show aE r l = if (vRu r && vGu l) = true then 0 else 1 from rfl)
  clear hR
  cases h1 : vRu r
  · go_enter Tryd.func86, Tryd.ntmps86
    go_wp2_with (go_at_call 127; ((with_reducible refine (p_ValidRuleV h1 _).mono ?_); rintro e w1 ⟨rfl, hb1⟩; obtain ⟨hc1, hf1⟩ := bcell hb1; have hz1 := hb1.size; (try simp [sz_drew, sz_drewN] at hz1); (try simp only [sz_drew, sz_drewN] at hc1 hf1); have z1_0 : w.heap.size < w1.heap.size := (by omega)))
    go_ret
    exact ⟨ret_int (by rw [HE0.out, h1]; rfl), by (repeat' (first | assumption | exact below_refl _ | refine bl_alloc ?_ _ | refine Below.setCell ?_ ?_ _ | refine below_draw ?_ | refine below_drewN ?_ _ | refine below_tr ?_ (by assumption))) <;> (first | omega | (simp; done) | (simp; omega))⟩
  · cases h2 : vGu l
    all_goals
      go_enter Tryd.func86, Tryd.ntmps86
      go_wp2_with (first
        | ((go_at_call 127; ((with_reducible refine (p_ValidRuleV h1 _).mono ?_); rintro e w1 ⟨rfl, hb1⟩; obtain ⟨hc1, hf1⟩ := bcell hb1; have hz1 := hb1.size; (try simp [sz_drew, sz_drewN] at hz1); (try simp only [sz_drew, sz_drewN] at hc1 hf1); have z1_0 : w.heap.size < w1.heap.size := (by omega))); have B1 : Below w.heap.size w w1 := (by (repeat' (first | assumption | exact below_refl _ | refine bl_alloc ?_ _ | refine Below.setCell ?_ ?_ _ | refine below_draw ?_ | refine below_drewN ?_ _ | refine below_tr ?_ (by assumption))) <;> (first | omega | (simp; done) | (simp; omega))))
        | (go_at_call 53; ((with_reducible refine (HG.out _ h2 _ B1).mono ?_); rintro e w2 ⟨rfl, hb2⟩; obtain ⟨hc2, hf2⟩ := bcell hb2; have hz2 := hb2.size; (try simp [sz_drew, sz_drewN] at hz2); (try simp only [sz_drew, sz_drewN] at hc2 hf2))))
      go_ret
      exact ⟨ret_int (by rw [HE0.out, h1, h2]; rfl), by (repeat' (first | assumption | exact below_refl _ | refine bl_alloc ?_ _ | refine Below.setCell ?_ ?_ _ | refine below_draw ?_ | refine below_drewN ?_ _ | refine below_tr ?_ (by assumption))) <;> (first | omega | (simp; done) | (simp; omega))⟩
end Go.Proofs.YtoelekhkgknneaaDoor
