/- Greatest common divisors and fractions in lowest terms: the two programs' loops. -/
import Derived.Test.YtoelekhkgknneaaDoorProg
import Derived.Test.YtoelekhkgknneaaDoorKit
import Derived.BigQuiet
import Derived.Deep.QuietTactic
import Derived.IntWalk
namespace Go.Proofs.YtoelekhkgknneaaDoor
open Go.RowKit

/-- within what the loops bear -/
def Fits (n : Int) : Prop := -9000000000000000000 ≤ n ∧ n ≤ 9000000000000000000

theorem fits_wrap {n : Int} (h : Fits n) : IntKind.i64.wrap n = n := by
  obtain ⟨h1, h2⟩ := h
  exact IntWalk.i64_in _ (by omega)
theorem fits_abs {a : Int} : Fits a ↔ a.natAbs ≤ 9000000000000000000 := by unfold Fits; omega
theorem fits_mod {a b : Int} (h : Fits a) : Fits (a.tmod b) := by
  rw [fits_abs] at h ⊢
  rw [Int.natAbs_tmod]
  exact Nat.le_trans (Nat.mod_le _ _) h
theorem gcd_tmod_ (a b : Int) : Int.gcd b (a.tmod b) = Int.gcd a b := by
  show Nat.gcd b.natAbs (a.tmod b).natAbs = Nat.gcd a.natAbs b.natAbs
  rw [Int.natAbs_tmod, Nat.gcd_comm, ← Nat.gcd_rec, Nat.gcd_comm]
theorem natAbs_tmod_lt (a b : Int) (h : ¬ b = 0) : (a.tmod b).natAbs < b.natAbs := by
  rw [Int.natAbs_tmod]; exact Nat.mod_lt _ (by omega)
theorem gcd_zero_r (a : Int) : Int.gcd a 0 = a.natAbs := by show Nat.gcd _ _ = _; simp

theorem load_ratio {W : World} {b : Nat} {x y : Value} (h : Blk W b 93 #[x, y]) : (loadVar 93 ⟨b, 0, none⟩).run Tryd.prog W = .ok (.agg #[x, y]) W := by
  have c0 := h.cell 0
  have c1 := h.cell 1
  simp only [List.getElem?_toArray, List.getElem?_cons_zero, List.getElem?_cons_succ] at c0 c1
  go_simp

def gN (n d : Int) : Int := n / (Int.gcd n d : Int)
def gD (n d : Int) : Int := d / (Int.gcd n d : Int)
theorem gcd_pos_ {n d : Int} (h : 0 < d) : 0 < Int.gcd n d := Int.gcd_pos_of_ne_zero_right _ (by omega)
theorem tdiv_gcd_l (n d : Int) : n.tdiv (Int.gcd n d : Int) = gN n d := Int.tdiv_eq_ediv_of_dvd (Int.gcd_dvd_left _ _)
theorem tdiv_gcd_r (n d : Int) : d.tdiv (Int.gcd n d : Int) = gD n d := Int.tdiv_eq_ediv_of_dvd (Int.gcd_dvd_right _ _)
theorem fits_gN {n d : Int} (h : Fits n) : Fits (gN n d) := by
  rw [fits_abs] at h ⊢
  unfold gN
  rw [Int.natAbs_ediv_of_dvd (Int.gcd_dvd_left _ _)]
  exact Nat.le_trans (Nat.div_le_self _ _) h
theorem fits_gD {n d : Int} (h : Fits d) : Fits (gD n d) := by
  rw [fits_abs] at h ⊢
  unfold gD
  rw [Int.natAbs_ediv_of_dvd (Int.gcd_dvd_right _ _)]
  exact Nat.le_trans (Nat.div_le_self _ _) h

set_option maxHeartbeats 400000 in
theorem s_ratio (n d : Int) (w : World) (hn : Fits n) (hd : Fits d) (h0 : 0 < d) :
    Calls Tryd.prog 97 #[.int .i64 n, .int .i64 d] w fun e w' => e = .returned (.agg #[.int .i64 (gN n d), .int .i64 (gD n d)]) ∧ Below w.heap.size w w' := by
  go_enter Tryd.func97, Tryd.ntmps97
  go_wp2
  go_loopw [5, 6] (fun x y wr => ∃ a' b' : Int, x = .int .i64 a' ∧ y = .int .i64 b' ∧ Fits a' ∧ Fits b' ∧ Hid (Int.gcd a' b' = Int.gcd n d) ∧ Below (w.alloc (.cells #[.int .i64 0, .int .i64 0] 93)).heap.size (w.alloc (.cells #[.int .i64 0, .int .i64 0] 93)) wr) (fun x y _ => (intOf y).natAbs)
  case atStart => exact ⟨n, d, rfl, rfl, hn, hd, rfl, Below.refl _ _⟩
  case round =>
    obtain ⟨a', b', rfl, rfl, ha', hb', HG, hB⟩ := hrel
    by_cases hz : b' = 0
    · subst hz
      have hg : (Int.gcd n d : Int) = (a'.natAbs : Int) := by rw [← HG.out, gcd_zero_r]
      have hp0 := gcd_pos_ (n := n) h0
      have e1 : IntKind.i64.wrap (-a') = -a' := fits_wrap (by unfold Fits at *; omega)
      rcases (by omega : (a' < -a' ∧ (Int.gcd n d : Int) = -a') ∨ (-a' ≤ a' ∧ (Int.gcd n d : Int) = a')) with ⟨hs, he⟩ | ⟨hs, he⟩
      all_goals
        have e3 := tdiv_gcd_l n d
        have e4 := tdiv_gcd_r n d
        rw [he] at e3 e4
        have f3 := fits_wrap (fits_gN (d := d) hn)
        have f4 := fits_wrap (fits_gD (n := n) hd)
        have t1 : (a' == 0) = false := by simp; omega
        have t2 : (-a' == 0) = false := by simp; omega
        have hz : ¬ a' = 0 := by omega
        have hz2 : ¬ -a' = 0 := by omega
        clear hg hp0 he HG
        obtain ⟨hc, hf⟩ := bcell hB
        go_wp2
        go_region
        go_wp2
        refine bodyPost_ret (v := .agg #[.int .i64 (gN n d), .int .i64 (gD n d)]) (by simp [results, Tryd.results97, go_sem, hc]) rfl ⟨rfl, ?_⟩
        exact below_draw (((below_tr (below_alloc _ _) hB).setCell (Nat.le_refl _) _).setCell (Nat.le_refl _) _)
    · have t1 : (b' == 0) = false := by simpa using hz
      have t2 : (b' != 0) = true := by simpa using hz
      have e1 := fits_wrap (fits_mod (b := b') ha')
      go_wp2
      go_quiet (fail)
      go_wp2
      go_roundw
      case rel => exact ⟨b', a'.tmod b', rfl, rfl, hb', fits_mod ha', by show _ = _; rw [gcd_tmod_]; exact HG.out, below_drewN hB _⟩
      case measure => simp only [intOf]; exact natAbs_tmod_lt _ _ hz
end Go.Proofs.YtoelekhkgknneaaDoor
