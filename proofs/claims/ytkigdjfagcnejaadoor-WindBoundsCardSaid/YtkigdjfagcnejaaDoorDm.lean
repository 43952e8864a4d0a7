/- Wind cards: how many minutes work goes. -/
import Derived.Test.YtkigdjfagcnejaaDoorDl
set_option linter.unusedSimpArgs false
set_option linter.unusedVariables false
namespace Go.Proofs.YtkigdjfagcnejaaDoor
open Go.RowKit

/-- how many of k numbers from a on are so -/
def cnS (p : Nat → Bool) (a : Nat) : Nat → Nat
  | 0 => 0
  | k + 1 => cnS p a k + (if p (a + k) = true then 1 else 0)
theorem cnS_le (p : Nat → Bool) (a : Nat) : ∀ k, cnS p a k ≤ k
  | 0 => Nat.le_refl _
  | k + 1 => by have := cnS_le p a k; unfold cnS; split <;> omega
theorem cnS_yes {p : Nat → Bool} {a k : Nat} (h : p (a + k) = true) : cnS p a (k + 1) = cnS p a k + 1 := by rw [cnS, if_pos h]
theorem cnS_no {p : Nat → Bool} {a k : Nat} (h : p (a + k) = false) : cnS p a (k + 1) = cnS p a k := by rw [cnS, if_neg (by simp [h])]; rfl
set_option maxHeartbeats 1000000 in
set_option maxRecDepth 20000 in
theorem p_count (A : Option Addr) (L : List Bool) (c : Nat) (p : Nat → Bool) (a : Nat) (w : World) (hl : L.length ≤ 100000) (hR : Rd bC 1 w A L) (hp : ∀ (k : Nat) (x : Bool), L[k]? = some x → p (a + k) = x) :
    Calls Tryd.prog 70 #[.slice A L.length c] w fun e w' => e = .returned (.int .i64 (cnS p a L.length : Nat)) ∧ w = w' := by
  have HP := Lib.hid hp
  have HY := Lib.hid (fun k (h : p (a + k) = true) => cnS_yes h)
  have HN := Lib.hid (fun k (h : p (a + k) = false) => cnS_no h)
  have HLe := Lib.hid (cnS_le p a)
  clear hp
  go_enter Tryd.func70, Tryd.ntmps70
  go_wp2
  go_loopw [3, 8] (fun n i wr => ∃ k : Nat, k ≤ L.length ∧ i = .int .i64 k ∧ n = .int .i64 (cnS p a k : Nat) ∧ wr = w) (fun _ i _ => L.length - (intOf i).toNat)
  case atStart => exact ⟨0, by omega, rfl, rfl, rfl⟩
  case round =>
    obtain ⟨k, hk, rfl, rfl, rfl⟩ := hrel
    have k0 : (0 : Int) ≤ (k : Int) := Int.natCast_nonneg _
    by_cases hlt : k < L.length
    · have k1 : (k : Int) < (L.length : Int) := by omega
      obtain ⟨x, b, off, hx, rfl, hb, c0⟩ := rdB hR hlt
      have hpx := HP.out k x hx
      have hle := HLe.out k
      clear hx
      cases x
      · have HS := Lib.hid (HN.out k hpx)
        generalize cnS p a k = C at *
        clear hpx
        go_wp2
        go_roundw
        case rel => exact ⟨k + 1, by omega, by go_num, by rw [HS.out], trivial⟩
        case measure => simp [intOf]; omega
      · have HS := Lib.hid (HY.out k hpx)
        generalize cnS p a k = C at *
        have hw1 : IntKind.i64.wrap ((C : Int) + 1) = (C : Int) + 1 := fits_wrap (by omega)
        clear hpx
        go_wp2
        go_roundw
        case rel => exact ⟨k + 1, by omega, by go_num, by rw [HS.out]; simp, trivial⟩
        case measure => simp [intOf]; omega
    · obtain rfl : k = L.length := by omega
      go_wp2
      go_ret
      exact ⟨rfl, rfl⟩
def miE (r : Ru) (l : List Int) (fr tu : Int) : Int := if aE r l = 0 then (if 0 ≤ fr ∧ fr ≤ tu ∧ tu ≤ l.length then 0 else 7) else 1
def miN (r : Ru) (l : List Int) (fr tu : Int) : Nat := if miE r l fr tu = 0 then cnS (gA r l) fr.toNat (tu - fr).toNat else 0
theorem rd_sub {α : Type} {enc : α → List Value} {w : World} {b off : Nat} {L : List α} (h : Rd enc 1 w (some ⟨b, off, none⟩) L) (f m : Nat) : Rd enc 1 w (some ⟨b, off + f, none⟩) ((L.drop f).take m) := fun hne => by
  obtain ⟨b', off', e, hb, hc⟩ := h (by rintro rfl; simp at hne)
  cases e
  refine ⟨b, off + f, rfl, hb, fun k x hx j v hv => ?_⟩
  have h1 : L[f + k]? = some x := by
    rw [List.getElem?_take] at hx
    split at hx
    · rwa [List.getElem?_drop] at hx
    · cases hx
  have := hc (f + k) x h1 j v hv
  rw [show off + f + k * 1 + j = off + (f + k) * 1 + j by omega]
  exact this
end Go.Proofs.YtkigdjfagcnejaaDoor
