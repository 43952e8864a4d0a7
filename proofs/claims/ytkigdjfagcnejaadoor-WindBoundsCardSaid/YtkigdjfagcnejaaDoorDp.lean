/- Wind cards: Longest of the program. -/
import Derived.Test.YtkigdjfagcnejaaDoorDo
set_option linter.unusedSimpArgs false
set_option linter.unusedVariables false
namespace Go.Proofs.YtkigdjfagcnejaaDoor
open Go.RowKit

/-- the longest span so far -/
def lgK (S : List Sp) (b : Sp) (k : Nat) : Sp := (S.take k).foldl (fun b x => if (b.2 : Int) - b.1 < (x.2 : Int) - x.1 then x else b) b
theorem lgK_yes {S : List Sp} {b x : Sp} {k : Nat} (hx : S[k]? = some x) (h : ((lgK S b k).2 : Int) - (lgK S b k).1 < (x.2 : Int) - x.1) : lgK S b (k + 1) = x := by
  unfold lgK at h ⊢
  rw [List.take_add_one, hx, List.foldl_append]
  exact if_pos h
theorem lgK_no {S : List Sp} {b x : Sp} {k : Nat} (hx : S[k]? = some x) (h : ¬ ((lgK S b k).2 : Int) - (lgK S b k).1 < (x.2 : Int) - x.1) : lgK S b (k + 1) = lgK S b k := by
  unfold lgK at h ⊢
  rw [List.take_add_one, hx, List.foldl_append]
  exact if_neg h
theorem lgK_bd {S : List Sp} {n : Nat} (hS : ∀ x ∈ S, x.1 < x.2 ∧ x.2 ≤ n) : ∀ k, k ≤ S.length → (lgK S (0, 0) k).1 ≤ (lgK S (0, 0) k).2 ∧ (lgK S (0, 0) k).2 ≤ n ∧ (0 < k → (lgK S (0, 0) k).1 < (lgK S (0, 0) k).2)
  | 0, _ => ⟨Nat.le_refl _, Nat.zero_le _, fun h => by omega⟩
  | k + 1, hk => by
    obtain ⟨h1, h2, h3⟩ := lgK_bd hS k (by omega)
    obtain ⟨x, hx⟩ := get_lt (show k < S.length by omega)
    have hb := hS x (List.mem_of_getElem? hx)
    by_cases h : ((lgK S (0, 0) k).2 : Int) - (lgK S (0, 0) k).1 < (x.2 : Int) - x.1
    · rw [lgK_yes hx h]; exact ⟨by omega, by omega, fun _ => hb.1⟩
    · rw [lgK_no hx h]
      refine ⟨h1, h2, fun _ => ?_⟩
      omega
theorem lgK_from {S : List Sp} {x0 : Sp} (h0 : S[0]? = some x0) (hp : x0.1 < x0.2) : ∀ k, 0 < k → k ≤ S.length → lgK S x0 k = lgK S (0, 0) k
  | 0, h, _ => by omega
  | 1, _, _ => by
    rw [lgK_yes (k := 0) (b := (0, 0)) h0 (by unfold lgK; simp; omega), lgK_no (k := 0) (b := x0) h0 (by unfold lgK; simp)]
    rfl
  | k + 2, _, hk => by
    have ih := lgK_from h0 hp (k + 1) (by omega) (by omega)
    obtain ⟨x, hx⟩ := get_lt (show k + 1 < S.length by omega)
    by_cases h : ((lgK S (0, 0) (k + 1)).2 : Int) - (lgK S (0, 0) (k + 1)).1 < (x.2 : Int) - x.1
    · rw [lgK_yes hx h, lgK_yes hx (by rw [ih]; exact h)]
    · rw [lgK_no hx h, lgK_no hx (by rw [ih]; exact h), ih]
def lgL (r : Ru) (l : List Int) : List Sp := spS (gA r l) l.length
def lgE (r : Ru) (l : List Int) : Int := if aE r l = 0 then (if lgL r l = [] then 8 else 0) else 1
def lgB (r : Ru) (l : List Int) : Sp := if lgE r l = 0 then lgK (lgL r l) (0, 0) (lgL r l).length else (0, 0)
theorem load_spn {W : World} {b : Nat} {x y : Value} (h : Blk W b 31 #[x, y]) : (loadVar 31 ⟨b, 0, none⟩).run Tryd.prog W = .ok (.agg #[x, y]) W := by
  have h0 := h.cell 0
  have h1 := h.cell 1
  simp only [List.getElem?_toArray, List.getElem?_cons_zero, List.getElem?_cons_succ] at h0 h1
  simp [go_sem, h0, h1]
theorem p_Longest1 (A : Option Addr) (r : Ru) (l : List Int) (c b t : Nat) (w : World) (ht : t < l.length) (hR : Rd bC 1 w A (goL r l)) (hb : b < w.heap.size) (hc : w.cell? ⟨b, 0, none⟩ = some (.slice A (goL r l).length c)) :
    Calls Tryd.prog 72 #[.int .i64 (t : Nat), .pointer (some ⟨b, 0, none⟩)] w fun e w' => e = .returned (.bool (gA r l t)) ∧ Below w.heap.size w w' := by
  obtain ⟨x, xb, xo, hx, rfl, hxb, c0⟩ := rdB hR (show t < (goL r l).length by rw [goL_len]; exact ht)
  have HM := Lib.hid (show gA r l t = x by rw [gA_at ht] at hx; exact Option.some.inj hx)
  have t0 : (0 : Int) ≤ (t : Int) := Int.natCast_nonneg _
  have t1 : (t : Int) < ((goL r l).length : Int) := by rw [goL_len]; omega
  clear hx hR
  generalize (goL r l).length = n at *
  go_enter Tryd.func72, Tryd.ntmps72
  go_wp2
  go_ret
  exact ⟨ret_bool (by rw [HM.out]), below_refl _⟩
end Go.Proofs.YtkigdjfagcnejaaDoor
