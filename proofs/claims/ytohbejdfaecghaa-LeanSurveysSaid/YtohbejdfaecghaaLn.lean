/- Lean: greatest common divisors and fractions in lowest terms, by the reference. -/
import Derived.Test.YtohbejdfaecghaaProg
import Derived.Test.YtohbejdfaecghaaKit
import Derived.BigQuiet
import Derived.Deep.QuietTactic
import Derived.IntWalk
namespace Go.Proofs.Ytohbejdfaecghaa
open Go.RowKit

/-- within what the loops bear -/
def Fits (n : Int) : Prop := -9000000000000000000 ≤ n ∧ n ≤ 9000000000000000000

theorem fits_wrap {n : Int} (h : Fits n) : IntKind.i64.wrap n = n := by
  obtain ⟨h1, h2⟩ := h
  exact IntWalk.i64_in _ (by omega)
theorem fits_abs {a : Int} : Fits a ↔ a.natAbs ≤ 9000000000000000000 := by unfold Fits; omega
theorem fits_mod {a b : Int} (h : Fits a) : Fits (a.tmod b) := by
  rw [fits_abs] at h ⊢
  rw [Int.natAbs_tmod]
  exact Nat.le_trans (Nat.mod_le _ _) h
theorem gcd_tmod_ (a b : Int) : Int.gcd b (a.tmod b) = Int.gcd a b := by
  show Nat.gcd b.natAbs (a.tmod b).natAbs = Nat.gcd a.natAbs b.natAbs
  rw [Int.natAbs_tmod, Nat.gcd_comm, ← Nat.gcd_rec, Nat.gcd_comm]
theorem natAbs_tmod_lt (a b : Int) (h : ¬ b = 0) : (a.tmod b).natAbs < b.natAbs := by
  rw [Int.natAbs_tmod]; exact Nat.mod_lt _ (by omega)
theorem gcd_zero_r (a : Int) : Int.gcd a 0 = a.natAbs := by show Nat.gcd _ _ = _; simp

theorem load_ratio {W : World} {b : Nat} {x y : Value} (h : Blk W b 23 #[x, y]) : (loadVar 23 ⟨b, 0, none⟩).run Try.prog W = .ok (.agg #[x, y]) W := by
  have c0 := h.cell 0
  have c1 := h.cell 1
  simp only [List.getElem?_toArray, List.getElem?_cons_zero, List.getElem?_cons_succ] at c0 c1
  go_simp

set_option maxHeartbeats 400000 in
theorem r_divisor (a b : Int) (w : World) (ha : Fits a) (hb : Fits b) :
    Calls Try.prog 68 #[.int .i64 a, .int .i64 b] w fun e w' => e = .returned (.int .i64 (Int.gcd a b)) ∧ Below w.heap.size w w' := by
  go_enter Try.func68, Try.ntmps68
  go_wp2
  go_loopw [0, 1] (fun x y wr => ∃ a' b' : Int, x = .int .i64 a' ∧ y = .int .i64 b' ∧ Fits a' ∧ Fits b' ∧ Hid (Int.gcd a' b' = Int.gcd a b) ∧ Below w.heap.size w wr) (fun x y _ => (intOf y).natAbs)
  case atStart => exact ⟨a, b, rfl, rfl, ha, hb, rfl, Below.refl _ _⟩
  case round =>
    obtain ⟨a', b', rfl, rfl, ha', hb', HG, hB⟩ := hrel
    by_cases hz : b' = 0
    · subst hz
      have hg : ((a.gcd b : Nat) : Int) = (a'.natAbs : Int) := by rw [← HG.out, gcd_zero_r]
      have HH := Lib.hid hg
      clear hg
      have e1 : IntKind.i64.wrap (-a') = -a' := fits_wrap (by unfold Fits at *; omega)
      go_wp2
      · have h0 : a' < 0 := by assumption
        go_ret
        exact ⟨ret_int (by rw [HH.out]; omega), hB⟩
      · have h0 : 0 ≤ a' := by assumption
        go_ret
        exact ⟨ret_int (by rw [HH.out]; omega), hB⟩
    · have t1 : (b' == 0) = false := by simpa using hz
      have t2 : (b' != 0) = true := by simpa using hz
      have e1 := fits_wrap (fits_mod (b := b') ha')
      go_wp2
      go_quiet (fail)
      go_wp2
      go_roundw
      case rel => exact ⟨b', a'.tmod b', rfl, rfl, hb', fits_mod ha', by show _ = _; rw [gcd_tmod_]; exact HG.out, below_drewN hB _⟩
      case measure => simp only [intOf]; exact natAbs_tmod_lt _ _ hz
def gN (n d : Int) : Int := n / (Int.gcd n d : Int)
def gD (n d : Int) : Int := d / (Int.gcd n d : Int)
theorem gcd_pos_ {n d : Int} (h : 0 < d) : 0 < Int.gcd n d := Int.gcd_pos_of_ne_zero_right _ (by omega)
theorem tdiv_gcd_l (n d : Int) : n.tdiv (Int.gcd n d : Int) = gN n d := Int.tdiv_eq_ediv_of_dvd (Int.gcd_dvd_left _ _)
theorem tdiv_gcd_r (n d : Int) : d.tdiv (Int.gcd n d : Int) = gD n d := Int.tdiv_eq_ediv_of_dvd (Int.gcd_dvd_right _ _)
theorem fits_gN {n d : Int} (h : Fits n) : Fits (gN n d) := by
  rw [fits_abs] at h ⊢
  unfold gN
  rw [Int.natAbs_ediv_of_dvd (Int.gcd_dvd_left _ _)]
  exact Nat.le_trans (Nat.div_le_self _ _) h
theorem fits_gD {n d : Int} (h : Fits d) : Fits (gD n d) := by
  rw [fits_abs] at h ⊢
  unfold gD
  rw [Int.natAbs_ediv_of_dvd (Int.gcd_dvd_right _ _)]
  exact Nat.le_trans (Nat.div_le_self _ _) h

set_option maxHeartbeats 400000 in
theorem r_lowest (n d : Int) (w : World) (hn : Fits n) (hd : Fits d) (h0 : 0 < d) :
    Calls Try.prog 71 #[.int .i64 n, .int .i64 d] w fun e w' => e = .returned (.agg #[.int .i64 (gN n d), .int .i64 (gD n d)]) ∧ Below w.heap.size w w' := by
  have hp : ¬ ((Int.gcd n d : Nat) : Int) = 0 := by have := gcd_pos_ (n := n) h0; omega
  have t1 : (((Int.gcd n d : Nat) : Int) == 0) = false := by simpa using hp
  have e1 : IntKind.i64.wrap (n.tdiv (Int.gcd n d : Int)) = gN n d := by rw [tdiv_gcd_l]; exact fits_wrap (fits_gN hn)
  have e2 : IntKind.i64.wrap (d.tdiv (Int.gcd n d : Int)) = gD n d := by rw [tdiv_gcd_r]; exact fits_wrap (fits_gD hd)
  go_enter Try.func71, Try.ntmps71
  go_wp2_with (go_at_call 68; refine (r_divisor n d _ hn hd).mono ?_; rintro e w1 ⟨rfl, hb⟩; obtain ⟨hc, hf⟩ := bcell hb)
  go_region
  go_wp2
  refine bodyPost_ret (v := .agg #[.int .i64 (gN n d), .int .i64 (gD n d)]) (by simp [results, Try.results71, go_sem, hc]) rfl ⟨rfl, ?_⟩
  exact below_draw (((below_tr (below_alloc _ _) hb).setCell (Nat.le_refl _) _).setCell (Nat.le_refl _) _)

end Go.Proofs.Ytohbejdfaecghaa
