/- Lean: lists of points, of marks and of numbers that are equal. -/
import Derived.Test.YtohbejdfaecghaaOwn
import Derived.Test.YtohbejdfaecghaaLvb
import Derived.Deep.QuietTactic
import Derived.BigQuiet
set_option linter.unusedSimpArgs false
set_option linter.unusedVariables false
namespace Go.Proofs.Ytohbejdfaecghaa
open Go.RowKit

set_option maxHeartbeats 1000000 in
set_option maxRecDepth 20000 in
theorem r_samePoints (A B : Option Addr) (l : List Pt) (c d : Nat) (w : World) (hl : l.length ≤ 100000) (hA : Rd Pt.cs 2 w A l) (hB : Rd Pt.cs 2 w B l) :
    Calls Try.prog 43 #[.slice A l.length c, .slice B l.length d] w fun e w' => e = .returned (.bool true) ∧ Below w.heap.size w w' := by
  go_enter Try.func43, Try.ntmps43
  go_wp2
  go_loopw [5] (fun i wr => ∃ k : Nat, k ≤ l.length ∧ i = .int .i64 k ∧ Below w.heap.size w wr) (fun i _ => l.length - (intOf i).toNat)
  case atStart => exact ⟨0, by omega, rfl, below_refl _⟩
  case round =>
    obtain ⟨k, hk, rfl, hbw⟩ := hrel
    by_cases hlt : k < l.length
    · obtain ⟨x, b, off, hx, rfl, hb, c0, c1⟩ := rdP (hA.on hbw) hlt
      obtain ⟨y, b', off', hy, rfl, hb', d0, d1⟩ := rdP (hB.on hbw) hlt
      obtain rfl : x = y := by rw [hx] at hy; exact Option.some.inj hy
      have k0 : (0 : Int) ≤ (k : Int) := Int.natCast_nonneg _
      have k1 : (k : Int) < (l.length : Int) := by omega
      clear hx hy
      go_wp2
      go_quiet (fail)
      go_wp2
      go_roundw
      case rel => exact ⟨k + 1, by omega, by go_num, below_drewN hbw _⟩
      case measure => simp [intOf]; omega
    · obtain rfl : k = l.length := by omega
      go_wp2
      go_ret
      exact ⟨rfl, hbw⟩

set_option maxHeartbeats 1000000 in
set_option maxRecDepth 20000 in
theorem r_sameMarks (A B : Option Addr) (l : List Mk) (c d : Nat) (w : World) (hl : l.length ≤ 100000) (hA : Rd Mk.cs 3 w A l) (hB : Rd Mk.cs 3 w B l) :
    Calls Try.prog 50 #[.slice A l.length c, .slice B l.length d] w fun e w' => e = .returned (.bool true) ∧ Below w.heap.size w w' := by
  go_enter Try.func50, Try.ntmps50
  go_wp2
  go_loopw [5] (fun i wr => ∃ k : Nat, k ≤ l.length ∧ i = .int .i64 k ∧ Below w.heap.size w wr) (fun i _ => l.length - (intOf i).toNat)
  case atStart => exact ⟨0, by omega, rfl, below_refl _⟩
  case round =>
    obtain ⟨k, hk, rfl, hbw⟩ := hrel
    by_cases hlt : k < l.length
    · obtain ⟨x, b, off, hx, rfl, hb, c0, c1, c2⟩ := rdM (hA.on hbw) hlt
      obtain ⟨y, b', off', hy, rfl, hb', d0, d1, d2⟩ := rdM (hB.on hbw) hlt
      obtain rfl : x = y := by rw [hx] at hy; exact Option.some.inj hy
      have k0 : (0 : Int) ≤ (k : Int) := Int.natCast_nonneg _
      have k1 : (k : Int) < (l.length : Int) := by omega
      clear hx hy
      go_wp2
      go_quiet (fail)
      go_wp2
      go_roundw
      case rel => exact ⟨k + 1, by omega, by go_num, below_drewN hbw _⟩
      case measure => simp [intOf]; omega
    · obtain rfl : k = l.length := by omega
      go_wp2
      go_ret
      exact ⟨rfl, hbw⟩

set_option maxHeartbeats 1000000 in
set_option maxRecDepth 20000 in
theorem r_sameInts (A B : Option Addr) (l : List Int) (c d : Nat) (w : World) (hl : l.length ≤ 100000) (hA : Rd zC 1 w A l) (hB : Rd zC 1 w B l) :
    Calls Try.prog 36 #[.slice A l.length c, .slice B l.length d] w fun e w' => e = .returned (.bool true) ∧ Below w.heap.size w w' := by
  go_enter Try.func36, Try.ntmps36
  go_wp2
  go_loopw [5] (fun i wr => ∃ k : Nat, k ≤ l.length ∧ i = .int .i64 k ∧ Below w.heap.size w wr) (fun i _ => l.length - (intOf i).toNat)
  case atStart => exact ⟨0, by omega, rfl, below_refl _⟩
  case round =>
    obtain ⟨k, hk, rfl, hbw⟩ := hrel
    by_cases hlt : k < l.length
    · obtain ⟨x, b, off, hx, rfl, hb, c0⟩ := rd_int (hA.on hbw) hlt
      obtain ⟨y, b', off', hy, rfl, hb', d0⟩ := rd_int (hB.on hbw) hlt
      obtain rfl : x = y := by rw [hx] at hy; exact Option.some.inj hy
      have k0 : (0 : Int) ≤ (k : Int) := Int.natCast_nonneg _
      have k1 : (k : Int) < (l.length : Int) := by omega
      clear hx hy
      go_wp2
      go_quiet (fail)
      go_wp2
      go_roundw
      case rel => exact ⟨k + 1, by omega, by go_num, below_drewN hbw _⟩
      case measure => simp [intOf]; omega
    · obtain rfl : k = l.length := by omega
      go_wp2
      go_ret
      exact ⟨rfl, hbw⟩
end Go.Proofs.Ytohbejdfaecghaa
