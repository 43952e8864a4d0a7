/- Gear: SameInts; Ends by both; many. -/
import Derived.Test.YtoelekhkgknneaaDoorGh
set_option linter.unusedSimpArgs false
set_option linter.unusedVariables false
namespace Go.Proofs.YtoelekhkgknneaaDoor
open Go.RowKit Go.Maps


set_option maxHeartbeats 1000000 in
set_option maxRecDepth 20000 in
theorem r_sameInts (A B : Option Addr) (l : List Int) (c d : Nat) (w : World) (hl : l.length ≤ 100000) (hA : Rd zC 1 w A l) (hB : Rd zC 1 w B l) :
    Calls Tryd.prog 21 #[.slice A l.length c, .slice B l.length d] w fun e w' => e = .returned (.bool true) ∧ Below w.heap.size w w' := by
  go_enter Tryd.func21, Tryd.ntmps21
  go_wp2
  go_loopw [5] (fun i wr => ∃ k : Nat, k ≤ l.length ∧ i = .int .i64 k ∧ Below w.heap.size w wr) (fun i _ => l.length - (intOf i).toNat)
  case atStart => exact ⟨0, by omega, rfl, below_refl _⟩
  case round =>
    obtain ⟨k, hk, rfl, hbw⟩ := hrel
    by_cases hlt : k < l.length
    · obtain ⟨x, b, off, hx, rfl, hb, c0⟩ := rd_int (hA.on hbw) hlt
      obtain ⟨y, b', off', hy, rfl, hb', d0⟩ := rd_int (hB.on hbw) hlt
      obtain rfl : x = y := by rw [hx] at hy; exact Option.some.inj hy
      have k0 : (0 : Int) ≤ (k : Int) := Int.natCast_nonneg _
      have k1 : (k : Int) < (l.length : Int) := by omega
      clear hx hy
      go_wp2
      go_quiet (fail)
      go_wp2
      go_roundw
      case rel => exact ⟨k + 1, by omega, by go_num, below_drewN hbw _⟩
      case measure => simp [intOf]; omega
    · obtain rfl : k = l.length := by omega
      go_wp2
      go_ret
      exact ⟨rfl, hbw⟩

def endZ (r : List Lk) : List Int := (endN r r.length).map fun n : Nat => (n : Int)
theorem fl_nz (l : List Nat) : fl nC l = fl zC (l.map fun n : Nat => (n : Int)) := by
  induction l with
  | nil => rfl
  | cons x l ih => simp only [fl, List.map_cons, List.flatMap_cons] at ih ⊢; rw [ih]; rfl
theorem nz_own {w : World} {b : Nat} {v : Value} {l : List Nat} (h : w.ownsRow b 3 1 v l.length (fl nC l)) : w.ownsRow b 3 1 v (l.map fun n : Nat => (n : Int)).length (fl zC (l.map fun n : Nat => (n : Int))) := by
  rw [fl_nz] at h; rwa [List.length_map]
/-- a result of numbers, its length first -/
theorem own_ints {w : World} {b : Nat} {v : Value} {l : List Int} (h : w.ownsRow b 3 1 v l.length (fl zC l)) : ∃ A c, v = .slice A l.length c ∧ Rd zC 1 w A l := own_rd zC_len h
theorem p_endsZ (B : Option Addr) (r : List Lk) (d : Nat) (w : World) (hn : r.length ≤ 100000) (hS : Rd Lk.cs 2 w B r) :
    Calls Tryd.prog 70 #[.slice B r.length d] w fun e w' => ∃ v, e = .returned v ∧ w'.ownsRow w.heap.size 3 1 v (endZ r).length (fl zC (endZ r)) ∧ Below w.heap.size w w' := by
  refine (p_ends B r d w hn hS).mono ?_
  rintro e w' ⟨v, rfl, h, hb⟩
  exact ⟨v, rfl, nz_own h, hb⟩
theorem endZ_len (r : List Lk) : (endZ r).length ≤ r.length := by
  have := endN_len r r.length
  unfold endZ; rw [List.length_map]; exact this
/-- numbers and an error: numbers at no error, nil at another -/
def GotZ (w w' : World) (v : Value) (E : Int) (l : List Int) : Prop := if E = 0 then w'.ownsRow w.heap.size 3 1 v l.length (fl zC l) else v = .slice none 0 0
theorem gotZ_no {w w' : World} {E : Int} {l : List Int} (hE : E ≠ 0) : GotZ w w' (.slice none 0 0) E l := by unfold GotZ; rw [if_neg hE]
theorem gotZ_yes {w w' : World} {v : Value} {l : List Int} (ho : w'.ownsRow w.heap.size 3 1 v l.length (fl zC l)) : GotZ w w' v 0 l := by unfold GotZ; rw [if_pos rfl]; exact ho
abbrev onE (E : Int) (l : List Int) : List Int := if E = 0 then l else []
theorem gotZ_rd {w w' : World} {v : Value} {E : Int} {l : List Int} (h : GotZ w w' v E l) : ∃ A c, v = .slice A (onE E l).length c ∧ Rd zC 1 w' A (onE E l) := by
  unfold GotZ at h
  unfold onE
  by_cases hE : E = 0
  · rw [if_pos hE] at h ⊢; exact own_ints h
  · rw [if_neg hE] at h ⊢; exact ⟨none, 0, h, fun h => absurd rfl h⟩
def enE (g : List It) (r : List Lk) : Int := if (vldG g && vldR g r) = true then 0 else 1
/-- what many says: if it is false, both lists are short -/
def ManyV (g : List It) (r : List Lk) (v : Value) : Prop := ∃ b, v = .bool b ∧ (b = false → g.length ≤ 80 ∧ r.length ≤ 40)
set_option maxHeartbeats 2000000 in
set_option maxRecDepth 20000 in
theorem l_many (A B : Option Addr) (g : List It) (r : List Lk) (c d : Nat) (w : World) (hl : g.length ≤ maxLen) (hn : r.length ≤ maxLen) (hR : Rd It.cs 4 w A g) (hW : ∀ x ∈ g, IW x) (hS : Rd Lk.cs 2 w B r) (hV : ∀ x ∈ r, LW x) :
    Calls Tryd.prog 8 #[.slice A g.length c, .slice B r.length d] w fun e w' => ∃ v, e = .returned v ∧ ManyV g r v ∧ Below w.heap.size w w' := by
  unfold maxLen at hl hn
  go_enter Tryd.func8, Tryd.ntmps8
  go_wp2
  go_loopw [5, 6] (fun s i wr => ∃ (k : Nat) (n : Int), k ≤ g.length ∧ i = .int .i64 k ∧ s = .int .i64 n ∧ Below w.heap.size w wr) (fun _ i _ => g.length - (intOf i).toNat)
  case atStart => exact ⟨0, 0, by omega, rfl, rfl, Below.refl _ _⟩
  case round =>
    obtain ⟨k, n, hk, rfl, rfl, hB⟩ := hrel
    by_cases hlt : k < g.length
    · have k0 : (0 : Int) ≤ (k : Int) := Int.natCast_nonneg _
      have k1 : (k : Int) < (g.length : Int) := by omega
      obtain ⟨x, b, off, hx, rfl, hb, c0, c1, c2, c3⟩ := rdI (hR.on hB) hlt
      have iw := hW x (List.mem_of_getElem? hx)
      have s0 := iw.m
      have s1 := iw.b
      unfold maxLen at s0 s1
      clear hx iw c1 c2
      go_wp2
      go_quiet (fail)
      go_wp2
      go_roundw
      case rel => exact ⟨k + 1, _, by omega, by go_num, rfl, by (repeat' (first | assumption | exact below_refl _ | refine bl_alloc ?_ _ | refine Below.setCell ?_ ?_ _ | refine below_draw ?_ | refine below_drewN ?_ _ | refine below_tr ?_ (by assumption))) <;> (first | omega | (simp; done) | (simp; omega))⟩
      case measure => simp [intOf]; omega
    · obtain rfl : k = g.length := by omega
      go_wp2
      go_loopw [5, 7] (fun s i wr => ∃ (k : Nat) (n : Int), k ≤ r.length ∧ i = .int .i64 k ∧ s = .int .i64 n ∧ Below w.heap.size w wr) (fun _ i _ => r.length - (intOf i).toNat)
      case atStart => exact ⟨0, n, by omega, rfl, rfl, hB⟩
      case round =>
        clear hB
        obtain ⟨k, n, hk, rfl, rfl, hB⟩ := hrel
        by_cases hlt : k < r.length
        · have k0 : (0 : Int) ≤ (k : Int) := Int.natCast_nonneg _
          have k1 : (k : Int) < (r.length : Int) := by omega
          obtain ⟨x, b, off, hx, rfl, hb, c0, c1⟩ := rdL (hS.on hB) hlt
          have iw := hV x (List.mem_of_getElem? hx)
          have s0 := iw.m
          unfold maxLen at s0
          clear hx iw c1
          go_wp2
          go_roundw
          case rel => exact ⟨k + 1, _, by omega, by go_num, rfl, by (repeat' (first | assumption | exact below_refl _ | refine bl_alloc ?_ _ | refine Below.setCell ?_ ?_ _ | refine below_draw ?_ | refine below_drewN ?_ _ | refine below_tr ?_ (by assumption))) <;> (first | omega | (simp; done) | (simp; omega))⟩
          case measure => simp [intOf]; omega
        · obtain rfl : k = r.length := by omega
          go_wp2
          all_goals go_ret
          all_goals exact ⟨_, rfl, ⟨_, rfl, by simp; try omega⟩, hB⟩
end Go.Proofs.YtoelekhkgknneaaDoor
