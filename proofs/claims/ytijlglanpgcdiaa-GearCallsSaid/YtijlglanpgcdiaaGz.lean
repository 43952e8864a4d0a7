/- Gear: Shares of the reference: what is left is the load less what is borne. -/
import Derived.Test.YtijlglanpgcdiaaGy
set_option linter.unusedSimpArgs false
set_option linter.unusedVariables false
namespace Go.Proofs.Ytijlglanpgcdiaa
open Go.RowKit Go.Maps

theorem bv_snoc {r : List Lk} {E : List Nat} {L M : List Int} (i : Nat) : ∀ k, (∀ j, j < k → L.getD j 0 = M.getD j 0) → bv r E L k i = bv r E M k i
  | 0, _ => rfl
  | k + 1, h => by
    show bv r E L k i + L.getD k 0 * cnt r i (E.getD k 0) = bv r E M k i + M.getD k 0 * cnt r i (E.getD k 0)
    rw [bv_snoc i k (fun j hj => h j (by omega)), h k (by omega)]
theorem bv_zeros {r : List Lk} {E : List Nat} {L : List Int} (i : Nat) {k : Nat} : ∀ n, k ≤ n → (∀ j, k ≤ j → L.getD j 0 = 0) → bv r E L n i = bv r E L k i
  | 0, h, _ => by
    have h0 : k = 0 := by omega
    subst h0; rfl
  | n + 1, h, hz => by
    by_cases hk : k = n + 1
    · rw [hk]
    · show bv r E L n i + L.getD n 0 * cnt r i (E.getD n 0) = _
      rw [hz n (by omega), Int.zero_mul, Int.add_zero, bv_zeros i n (by omega) hz]
theorem subC_at' (N : Int) (c : List Nat) (M : List Int) (i : Nat) (h : ∀ j ∈ c, j < M.length) : (subC M N c).getD i 0 = M.getD i 0 - N * ((c.count i : Nat) : Int) := by
  have := subC_at (-N) c M i h
  rw [Int.neg_neg] at this
  rw [this, Int.neg_mul]; omega
theorem shS_left {g : List It} {r : List Lk} (hv : VR g r) (i : Nat) : ∀ k, k ≤ (endN r r.length).length → (shS r (ldL g r) (endN r r.length) k).1.getD i 0 = (ldL g r).getD i 0 - bv r (endN r r.length) (shS r (ldL g r) (endN r r.length) k).2 k i
  | 0, _ => by show (ldL g r).getD i 0 = _ - 0; omega
  | k + 1, hk => by
    obtain ⟨n, hx⟩ := get_lt (show k < (endN r r.length).length by omega)
    have hnr := endN_lt hx
    have e1 : (endN r r.length).getD k 0 = n := by simp [List.getD_eq_getElem?_getD, hx]
    have ih := shS_left hv i k (by omega)
    have hlen := (shS_bd hv k (by omega)).2.1
    have hl2 := shS_len r (ldL g r) (endN r r.length) k
    rw [shS, e1]
    generalize shS r (ldL g r) (endN r r.length) k = S at *
    obtain ⟨l, O⟩ := S
    dsimp only at *
    rw [subC_at' _ _ _ _ (fun j hj => by have := chn_lt hv (n + 1) n (by omega) (by omega) j hj; omega), ih]
    show _ = (ldL g r).getD i 0 - (bv r (endN r r.length) (O ++ [upZ r l n]) k i + (O ++ [upZ r l n]).getD k 0 * cnt r i ((endN r r.length).getD k 0))
    rw [e1, bv_snoc (L := O ++ [upZ r l n]) (M := O) i k (fun j hj => by rw [List.getD_eq_getElem?_getD, List.getElem?_append_left (by omega), ← List.getD_eq_getElem?_getD]),
      show (O ++ [upZ r l n]).getD k 0 = upZ r l n by rw [List.getD_eq_getElem?_getD, List.getElem?_append_right (by omega), hl2]; simp]
    unfold cnt
    omega
end Go.Proofs.Ytijlglanpgcdiaa
