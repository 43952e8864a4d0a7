/- Fell: numbers and spots: within, isSpot, less, dot, cross by both. -/
import Derived.Test.YthklgkgincebhaaGreatDoorFCom
import Derived.Test.YthklgkgincebhaaGreatDoorFm
set_option linter.unusedSimpArgs false
set_option linter.unusedVariables false
namespace Go.Proofs.YthklgkgincebhaaGreatDoor
open Go.RowKit

def Sp.cs (a : Sp) : List Value := [.int .i64 a.x, .int .i64 a.y]
theorem Sp.cs_len (a : Sp) : a.cs.length = 2 := rfl
abbrev spV (a : Sp) : Value := .agg #[.int .i64 a.x, .int .i64 a.y]
/-- a difference of spots, a product: as the program has them -/
def vec (a b : Sp) : Sp := ⟨a.x - b.x, a.y - b.y⟩
def vdot (a b : Sp) : Int := a.x * b.x + a.y * b.y
def vcr (a b : Sp) : Int := a.x * b.y - a.y * b.x
def isS (a : Sp) : Bool := wn a.x (-10000) 10000 && wn a.y (-10000) 10000
/-- coordinates within a bound -/
def Bd (n : Int) (a : Sp) : Prop := -n ≤ a.x ∧ a.x ≤ n ∧ -n ≤ a.y ∧ a.y ≤ n
theorem isS_bd {a : Sp} (h : isS a = true) : Bd 10000 a := by
  unfold isS at h; rw [Bool.and_eq_true, wn_iff, wn_iff] at h
  exact ⟨h.1.1, h.1.2, h.2.1, h.2.2⟩
theorem Bd.mono {m n : Int} {a : Sp} (h : Bd m a) (hmn : m ≤ n) : Bd n a := by unfold Bd at h ⊢; omega
theorem vec_bd {m n : Int} {a b : Sp} (h : Bd m a) (k : Bd n b) : Bd (m + n) (vec a b) := by unfold Bd vec at *; dsimp only; omega
theorem mul_bd {m n a b : Int} (h1 : -m ≤ a) (h2 : a ≤ m) (k1 : -n ≤ b) (k2 : b ≤ n) : -(m * n) ≤ a * b ∧ a * b ≤ m * n := by
  have e1 : 0 ≤ (m - a) * (n + b) := Int.mul_nonneg (by omega) (by omega)
  have e2 : 0 ≤ (m + a) * (n - b) := Int.mul_nonneg (by omega) (by omega)
  have e3 : 0 ≤ (m - a) * (n - b) := Int.mul_nonneg (by omega) (by omega)
  have e4 : 0 ≤ (m + a) * (n + b) := Int.mul_nonneg (by omega) (by omega)
  constructor <;> grind
theorem p_within (n lo hi : Int) (w : World) :
    Calls Tryz.prog 51 #[.int .i64 n, .int .i64 lo, .int .i64 hi] w fun e w' => e = .returned (.bool (wn n lo hi)) ∧ w = w' := by
  by_cases h1 : lo ≤ n
  · have t1 : decide (lo ≤ n) = true := by simpa using h1
    go_enter Tryz.func51, Tryz.ntmps51
    go_wp2
    go_ret
    exact ⟨ret_bool (by simp [wn, h1]), rfl⟩
  · have t1 : decide (lo ≤ n) = false := by simpa using h1
    go_enter Tryz.func51, Tryz.ntmps51
    go_wp2
    go_ret
    exact ⟨ret_bool (by unfold wn; rw [t1]; rfl), rfl⟩
theorem p_withinV {n lo hi : Int} {b : Bool} (h : wn n lo hi = b) (w : World) : Calls Tryz.prog 51 #[.int .i64 n, .int .i64 lo, .int .i64 hi] w fun e w' => e = .returned (.bool b) ∧ w = w' := h ▸ p_within n lo hi w
theorem r_within (n lo hi : Int) (w : World) :
    Calls Tryz.prog 39 #[.int .i64 n, .int .i64 lo, .int .i64 hi] w fun e w' => e = .returned (.bool (wn n lo hi)) ∧ w = w' := by
  by_cases h1 : lo ≤ n
  · have t1 : decide (lo ≤ n) = true := by simpa using h1
    go_enter Tryz.func39, Tryz.ntmps39
    go_wp2
    go_ret
    exact ⟨ret_bool (by simp [wn, h1]), rfl⟩
  · have t1 : decide (lo ≤ n) = false := by simpa using h1
    go_enter Tryz.func39, Tryz.ntmps39
    go_wp2
    go_ret
    exact ⟨ret_bool (by unfold wn; rw [t1]; rfl), rfl⟩
theorem r_withinV {n lo hi : Int} {b : Bool} (h : wn n lo hi = b) (w : World) : Calls Tryz.prog 39 #[.int .i64 n, .int .i64 lo, .int .i64 hi] w fun e w' => e = .returned (.bool b) ∧ w = w' := h ▸ r_within n lo hi w
theorem p_isSpot (a : Sp) (w : World) : Calls Tryz.prog 31 #[spV a] w fun e w' => e = .returned (.bool (isS a)) ∧ Below w.heap.size w w' := by
  have HB := Lib.hid (show isS a = (wn a.x (-10000) 10000 && wn a.y (-10000) 10000) from rfl)
  cases h1 : wn a.x (-10000) 10000
  · go_enter Tryz.func31, Tryz.ntmps31
    go_wp2_with (go_at_call 51; ((with_reducible refine (p_withinV h1 _).mono ?_); rintro e w' ⟨rfl, rfl⟩))
    go_ret
    exact ⟨ret_bool (by rw [HB.out, h1]; rfl), bl_alloc (below_refl _) _⟩
  cases h2 : wn a.y (-10000) 10000
  all_goals
    go_enter Tryz.func31, Tryz.ntmps31
    go_wp2_with (first | (go_at_call 51; ((with_reducible refine (p_withinV h1 _).mono ?_); rintro e w' ⟨rfl, rfl⟩)) | (go_at_call 51; ((with_reducible refine (p_withinV h2 _).mono ?_); rintro e w' ⟨rfl, rfl⟩)))
    go_ret
    exact ⟨ret_bool (by rw [HB.out, h1, h2]; rfl), bl_alloc (below_refl _) _⟩
theorem p_isSpotV {a : Sp} {b : Bool} (h : isS a = b) (w : World) : Calls Tryz.prog 31 #[spV a] w fun e w' => e = .returned (.bool b) ∧ Below w.heap.size w w' := h ▸ p_isSpot a w
theorem r_IsSpot (a : Sp) (w : World) : Calls Tryz.prog 24 #[spV a] w fun e w' => e = .returned (.bool (isS a)) ∧ Below w.heap.size w w' := by
  have HB := Lib.hid (show isS a = (wn a.x (-10000) 10000 && wn a.y (-10000) 10000) from rfl)
  cases h1 : wn a.x (-10000) 10000
  · go_enter Tryz.func24, Tryz.ntmps24
    go_wp2_with (go_at_call 39; ((with_reducible refine (r_withinV h1 _).mono ?_); rintro e w' ⟨rfl, rfl⟩))
    go_ret
    exact ⟨ret_bool (by rw [HB.out, h1]; rfl), bl_alloc (below_refl _) _⟩
  cases h2 : wn a.y (-10000) 10000
  all_goals
    go_enter Tryz.func24, Tryz.ntmps24
    go_wp2_with (first | (go_at_call 39; ((with_reducible refine (r_withinV h1 _).mono ?_); rintro e w' ⟨rfl, rfl⟩)) | (go_at_call 39; ((with_reducible refine (r_withinV h2 _).mono ?_); rintro e w' ⟨rfl, rfl⟩)))
    go_ret
    exact ⟨ret_bool (by rw [HB.out, h1, h2]; rfl), bl_alloc (below_refl _) _⟩
theorem r_IsSpotV {a : Sp} {b : Bool} (h : isS a = b) (w : World) : Calls Tryz.prog 24 #[spV a] w fun e w' => e = .returned (.bool b) ∧ Below w.heap.size w w' := h ▸ r_IsSpot a w
theorem bl_box2 (w : World) (a b c : Obj) : Below w.heap.size w (((w.alloc a).alloc b).alloc c) := bl_alloc (bl_alloc (bl_alloc (below_refl _) _) _) _
theorem p_less (a b : Sp) (w : World) (ha : Bd 1000000 a) (hb : Bd 1000000 b) : Calls Tryz.prog 44 #[spV a, spV b] w fun e w' => e = .returned (spV (vec a b)) ∧ Below w.heap.size w w' := by
  obtain ⟨a1, a2, a3, a4⟩ := ha
  obtain ⟨b1, b2, b3, b4⟩ := hb
  unfold vec
  go_enter Tryz.func44, Tryz.ntmps44
  go_wp2
  (refine bodyPost_ret (v := .agg #[.int .i64 (a.x - b.x), .int .i64 (a.y - b.y)]) (by simp [results, Tryz.results44, go_sem, *]) rfl ⟨rfl, ?_⟩; (repeat' (first | assumption | exact below_refl _ | refine bl_alloc ?_ _ | refine Below.setCell ?_ ?_ _ | refine below_draw ?_ | refine below_drewN ?_ _ | refine below_tr ?_ (by assumption))) <;> (first | omega | (simp; done) | (simp; omega)))
theorem p_dot (a b : Sp) (w : World) (ha : Bd 1000000 a) (hb : Bd 1000000 b) : Calls Tryz.prog 45 #[spV a, spV b] w fun e w' => e = .returned (.int .i64 (vdot a b)) ∧ Below w.heap.size w w' := by
  have ⟨m1, m2⟩ := mul_bd ha.1 ha.2.1 hb.1 hb.2.1
  have ⟨m3, m4⟩ := mul_bd ha.2.2.1 ha.2.2.2 hb.2.2.1 hb.2.2.2
  rw [show (1000000 : Int) * 1000000 = 1000000000000 from rfl] at m1 m2 m3 m4
  unfold vdot
  go_enter Tryz.func45, Tryz.ntmps45
  go_wp2
  go_ret
  exact ⟨rfl, bl_alloc (bl_alloc (below_refl _) _) _⟩
theorem p_cross (a b : Sp) (w : World) (ha : Bd 1000000 a) (hb : Bd 1000000 b) : Calls Tryz.prog 43 #[spV a, spV b] w fun e w' => e = .returned (.int .i64 (vcr a b)) ∧ Below w.heap.size w w' := by
  have ⟨m1, m2⟩ := mul_bd ha.1 ha.2.1 hb.2.2.1 hb.2.2.2
  have ⟨m3, m4⟩ := mul_bd ha.2.2.1 ha.2.2.2 hb.1 hb.2.1
  rw [show (1000000 : Int) * 1000000 = 1000000000000 from rfl] at m1 m2 m3 m4
  unfold vcr
  go_enter Tryz.func43, Tryz.ntmps43
  go_wp2
  go_ret
  exact ⟨rfl, bl_alloc (bl_alloc (below_refl _) _) _⟩
end Go.Proofs.YthklgkgincebhaaGreatDoor
