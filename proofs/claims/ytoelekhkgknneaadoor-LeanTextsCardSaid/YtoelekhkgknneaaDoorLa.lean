/- Lean: the first walks: bounds, divisors, lines, points; by both. -/
import Derived.Test.YtoelekhkgknneaaDoorLn
namespace Go.Proofs.YtoelekhkgknneaaDoor
open Go.RowKit

def wn (n lo hi : Int) : Bool := decide (lo ≤ n) && decide (n ≤ hi)
theorem wn_iff {n a b : Int} : wn n a b = true ↔ a ≤ n ∧ n ≤ b := by simp [wn]
theorem mul_bd {a b A B : Int} (h1 : -A ≤ a) (h2 : a ≤ A) (h3 : -B ≤ b) (h4 : b ≤ B) : -(A * B) ≤ a * b ∧ a * b ≤ A * B := by
  have hA : 0 ≤ A := by omega
  have hB : 0 ≤ B := by omega
  have ha : a.natAbs ≤ A.natAbs := by omega
  have hb : b.natAbs ≤ B.natAbs := by omega
  have hm := Nat.mul_le_mul ha hb
  rw [← Int.natAbs_mul, ← Int.natAbs_mul] at hm
  have h0 : 0 ≤ A * B := Int.mul_nonneg hA hB
  omega
theorem mul_bd0 {a b A B : Int} (h1 : 0 ≤ a) (h2 : a ≤ A) (h3 : 0 ≤ b) (h4 : b ≤ B) : 0 ≤ a * b ∧ a * b ≤ A * B :=
  ⟨Int.mul_nonneg h1 h3, Int.mul_le_mul h2 h4 h3 (by omega)⟩

theorem p_within (n lo hi : Int) (w : World) :
    Calls Tryd.prog 109 #[.int .i64 n, .int .i64 lo, .int .i64 hi] w fun e w' => e = .returned (.bool (wn n lo hi)) ∧ w = w' := by
  by_cases h : lo ≤ n
  all_goals
    go_enter Tryd.func109, Tryd.ntmps109
    go_wp2
    go_ret
    exact ⟨ret_bool (by simp [wn]; omega), rfl⟩
theorem r_within (n lo hi : Int) (w : World) :
    Calls Tryd.prog 111 #[.int .i64 n, .int .i64 lo, .int .i64 hi] w fun e w' => e = .returned (.bool (wn n lo hi)) ∧ w = w' := by
  by_cases h : lo ≤ n
  all_goals
    go_enter Tryd.func111, Tryd.ntmps111
    go_wp2
    go_ret
    exact ⟨ret_bool (by simp [wn]; omega), rfl⟩

set_option maxHeartbeats 400000 in
theorem p_divisor (a b : Int) (w : World) (ha : Fits a) (hb : Fits b) :
    Calls Tryd.prog 157 #[.int .i64 a, .int .i64 b] w fun e w' => e = .returned (.int .i64 (Int.gcd a b)) ∧ Below w.heap.size w w' := by
  go_enter Tryd.func157, Tryd.ntmps157
  go_wp2
  go_loopw [0, 1] (fun x y wr => ∃ a' b' : Int, x = .int .i64 a' ∧ y = .int .i64 b' ∧ Fits a' ∧ Fits b' ∧ Hid (Int.gcd a' b' = Int.gcd a b) ∧ Below w.heap.size w wr) (fun x y _ => (intOf y).natAbs)
  case atStart => exact ⟨a, b, rfl, rfl, ha, hb, rfl, Below.refl _ _⟩
  case round =>
    obtain ⟨a', b', rfl, rfl, ha', hb', HG, hB⟩ := hrel
    by_cases hz : b' = 0
    · subst hz
      have hg : ((a.gcd b : Nat) : Int) = (a'.natAbs : Int) := by rw [← HG.out, gcd_zero_r]
      have HH := Lib.hid hg
      clear hg
      have e1 : IntKind.i64.wrap (-a') = -a' := fits_wrap (by unfold Fits at *; omega)
      rcases (by omega : (a' < -a' ∧ (a'.natAbs : Int) = -a') ∨ (-a' ≤ a' ∧ (a'.natAbs : Int) = a')) with ⟨hs, he⟩ | ⟨hs, he⟩
      all_goals
        have HE := Lib.hid he
        clear he
        go_wp2
        go_ret
        exact ⟨ret_int (by rw [HH.out, HE.out]), hB⟩
    · have t1 : (b' == 0) = false := by simpa using hz
      have t2 : (b' != 0) = true := by simpa using hz
      have e1 := fits_wrap (fits_mod (b := b') ha')
      go_wp2
      go_quiet (fail)
      go_wp2
      go_roundw
      case rel => exact ⟨b', a'.tmod b', rfl, rfl, hb', fits_mod ha', by show _ = _; rw [gcd_tmod_]; exact HG.out, below_drewN hB _⟩
      case measure => simp only [intOf]; exact natAbs_tmod_lt _ _ hz

set_option maxHeartbeats 400000 in
theorem p_lowest (n d : Int) (w : World) (hn : Fits n) (hd : Fits d) (h0 : 0 < d) :
    Calls Tryd.prog 139 #[.int .i64 n, .int .i64 d] w fun e w' => e = .returned (.agg #[.int .i64 (gN n d), .int .i64 (gD n d)]) ∧ Below w.heap.size w w' := by
  have hp : ¬ ((Int.gcd n d : Nat) : Int) = 0 := by have := gcd_pos_ (n := n) h0; omega
  have t1 : (((Int.gcd n d : Nat) : Int) == 0) = false := by simpa using hp
  have e1 : IntKind.i64.wrap (n.tdiv (Int.gcd n d : Int)) = gN n d := by rw [tdiv_gcd_l]; exact fits_wrap (fits_gN hn)
  have e2 : IntKind.i64.wrap (d.tdiv (Int.gcd n d : Int)) = gD n d := by rw [tdiv_gcd_r]; exact fits_wrap (fits_gD hd)
  go_enter Tryd.func139, Tryd.ntmps139
  go_wp2_with (go_at_call 157; refine (p_divisor n d _ hn hd).mono ?_; rintro e w1 ⟨rfl, hb⟩; obtain ⟨hc, hf⟩ := bcell hb)
  go_region
  go_wp2
  refine bodyPost_ret (v := .agg #[.int .i64 (gN n d), .int .i64 (gD n d)]) (by simp [results, Tryd.results139, go_sem, hc]) rfl ⟨rfl, ?_⟩
  exact below_draw (((below_tr (below_alloc _ _) hb).setCell (Nat.le_refl _) _).setCell (Nat.le_refl _) _)

/-- the greatest divisor of three numbers, and a line's numbers without it -/
def g3 (a b d : Int) : Nat := Int.gcd (Int.gcd a b) d
def m3 (a b d x : Int) : Int := x / (g3 a b d : Int)
theorem g3_dvd (a b d : Int) : (g3 a b d : Int) ∣ a ∧ (g3 a b d : Int) ∣ b ∧ (g3 a b d : Int) ∣ d := by
  have h : (g3 a b d : Int) ∣ (Int.gcd a b : Int) := Int.gcd_dvd_left _ _
  exact ⟨Int.dvd_trans h (Int.gcd_dvd_left _ _), Int.dvd_trans h (Int.gcd_dvd_right _ _), Int.gcd_dvd_right _ _⟩
theorem g3_pos {a b d : Int} (h : 0 < d) : 0 < g3 a b d := gcd_pos_ h
theorem tdiv_g3 {a b d x : Int} (h : (g3 a b d : Int) ∣ x) : x.tdiv (g3 a b d : Int) = m3 a b d x := Int.tdiv_eq_ediv_of_dvd h
theorem fits_m3 {a b d x : Int} (h : (g3 a b d : Int) ∣ x) (hf : Fits x) : Fits (m3 a b d x) := by
  rw [fits_abs] at hf ⊢
  unfold m3
  rw [Int.natAbs_ediv_of_dvd h]
  exact Nat.le_trans (Nat.div_le_self _ _) hf
theorem fits_gcd {a b : Int} (ha : Fits a) (hb : Fits b) : Fits (Int.gcd a b : Int) := by
  rw [fits_abs] at *
  rw [Int.natAbs_natCast]
  show Nat.gcd a.natAbs b.natAbs ≤ _
  rcases Nat.eq_zero_or_pos a.natAbs with h | h
  · rw [h, Nat.gcd_zero_left]; exact hb
  · exact Nat.le_trans (Nat.le_of_dvd h (Nat.gcd_dvd_left _ _)) ha
abbrev lineV (a b d : Int) : Value := .agg #[.int .i64 a, .int .i64 b, .int .i64 d]
theorem load_line {W : World} {b : Nat} {x y z : Value} (h : Blk W b 102 #[x, y, z]) : (loadVar 102 ⟨b, 0, none⟩).run Tryd.prog W = .ok (.agg #[x, y, z]) W := by
  have c0 := h.cell 0
  have c1 := h.cell 1
  have c2 := h.cell 2
  simp only [List.getElem?_toArray, List.getElem?_cons_zero, List.getElem?_cons_succ] at c0 c1 c2
  go_simp

set_option maxHeartbeats 1000000 in
theorem p_made (a b d : Int) (w : World) (ha : Fits a) (hb : Fits b) (hd : Fits d) (h0 : 0 < d) :
    Calls Tryd.prog 135 #[.int .i64 a, .int .i64 b, .int .i64 d] w fun e w' => e = .returned (lineV (m3 a b d a) (m3 a b d b) (m3 a b d d)) ∧ Below w.heap.size w w' := by
  have hg := g3_pos (a := a) (b := b) h0
  obtain ⟨v1, v2, v3⟩ := g3_dvd a b d
  have e1 : IntKind.i64.wrap (a.tdiv (g3 a b d : Int)) = m3 a b d a := by rw [tdiv_g3 v1]; exact fits_wrap (fits_m3 v1 ha)
  have e2 : IntKind.i64.wrap (b.tdiv (g3 a b d : Int)) = m3 a b d b := by rw [tdiv_g3 v2]; exact fits_wrap (fits_m3 v2 hb)
  have e3 : IntKind.i64.wrap (d.tdiv (g3 a b d : Int)) = m3 a b d d := by rw [tdiv_g3 v3]; exact fits_wrap (fits_m3 v3 hd)
  have K1 := fun W => p_divisor a b W ha hb
  have K2 := fun W => p_divisor (Int.gcd a b : Int) d W (fits_gcd ha hb) hd
  rw [show Int.gcd (Int.gcd a b : Int) d = g3 a b d from rfl] at K2
  have H1 := Lib.hid K1
  have H2 := Lib.hid K2
  clear K1 K2 v1 v2 v3
  generalize m3 a b d a = A at *
  generalize m3 a b d b = B at *
  generalize m3 a b d d = D at *
  generalize g3 a b d = G at *
  have hp : ¬ ((G : Nat) : Int) = 0 := by omega
  have t1 : (((G : Nat) : Int) == 0) = false := by simpa using hp
  go_enter Tryd.func135, Tryd.ntmps135
  go_wp2_with (first
    | (go_at_call 157; ((with_reducible refine (H1.out _).mono ?_); rintro e w1 ⟨rfl, hb1⟩))
    | (go_at_call 157; ((with_reducible refine (H2.out _).mono ?_); rintro e w2 ⟨rfl, hb2⟩)))
  have D0 := ((Blk.new w 102 #[.int .i64 0, .int .i64 0, .int .i64 0]).below hb1 (by simp)).below hb2 (by have := hb1.size; simp at this; omega)
  have c0 : w2.cell? ⟨w.heap.size, 0, none⟩ = some (.int .i64 0) := D0.cell 0
  have c1 : w2.cell? ⟨w.heap.size, 1, none⟩ = some (.int .i64 0) := D0.cell 1
  have c2 : w2.cell? ⟨w.heap.size, 2, none⟩ = some (.int .i64 0) := D0.cell 2
  have f0 := D0.frozen 0
  have f1 := D0.frozen 1
  have f2 := D0.frozen 2
  go_region
  go_wp2
  refine bodyPost_ret (res_c rfl rfl (load_line (((D0.set_ 0 _).set_ 1 _).set_ 2 _).drew)) rfl ⟨rfl, ?_⟩
  exact below_draw ((((below_tr (below_tr (below_alloc _ _) hb1) hb2).setCell (Nat.le_refl _) _).setCell (Nat.le_refl _) _).setCell (Nat.le_refl _) _)
end Go.Proofs.YtoelekhkgknneaaDoor
