/- Texts: Join at a row of texts; a row of numerals; both words of numbers. -/
import Derived.Test.YtoelekhkgknneaaDoorQd
set_option linter.unusedSimpArgs false
set_option linter.unusedVariables false
namespace Go.Proofs.YtoelekhkgknneaaDoor.Tx
open Go.RowKit Go.Lib

theorem own_rdc {α : Type} {enc : α → List Value} {sz base : Nat} {W : World} {e : TypeId} {v : Value} {l : List α} (h : ∀ a, (enc a).length = sz) (hw : W.ownsRow base e sz v l.length (fl enc l)) : ∃ A c, v = .slice A l.length c ∧ Rd enc sz W A l ∧ l.length ≤ c ∧ c ≤ maxLen := by
  obtain ⟨A, c, e1, hr⟩ := own_rd h hw
  refine ⟨A, c, e1, hr, ?_⟩
  rcases hw.2 with ⟨e2, h0⟩ | ⟨g, cap, cur, e2, _, _, h1, h2, _⟩
  · rw [e1] at e2; injection e2 with a1 a2 a3; subst a3; exact ⟨by omega, Nat.zero_le _⟩
  · rw [e1] at e2; injection e2 with a1 a2 a3; subst a3; exact ⟨h1, h2⟩
theorem join_len {b : UInt8} {n : Nat} : ∀ {P : List (List UInt8)}, (∀ p ∈ P, p.length ≤ n) → (joinZ b P).length ≤ (n + 1) * P.length
  | [], _ => by simp [joinZ]
  | [p], h => by have := h p (List.mem_cons_self ..); simp [joinZ]; omega
  | p :: q :: r, h => by
    have ih := join_len (b := b) (P := q :: r) fun x hx => h x (List.mem_cons_of_mem _ hx)
    have h0 := h p (List.mem_cons_self ..)
    rw [joinZ]
    simp only [List.length_append, List.length_cons, Nat.mul_add, Nat.mul_one] at ih ⊢
    omega
theorem c_Join (A : Option Addr) (P : List (List UInt8)) (c : Nat) (w : World) (hl : P.length ≤ 1000) (hc : P.length ≤ c) (hs : ∀ p ∈ P, p.length ≤ 1000) (hR : Rd stG 1 w A P) :
    Calls Tryd.prog 55 #[.slice A P.length c, .string ⟨#[32]⟩] w fun e w' => e = .returned (.string (bts (joinZ 32 P))) ∧ Below w.heap.size w w' := by
  by_cases h0 : P = []
  · subst h0
    refine (Tryd.strings_Join_none A c ⟨#[32]⟩ w).mono ?_
    rintro e w' ⟨rfl, rfl⟩
    exact ⟨rfl, below_refl _⟩
  · obtain ⟨b, off, rfl, hlt3, hcell⟩ := hR h0
    have e1 : (P.map bts).map (·.data.toList) = P := by
      rw [List.map_map]
      conv => rhs; rw [← List.map_id P]
      exact List.map_congr_left fun p _ => bts_list p
    have e2 : Lib.join ((P.map bts).map (·.data.toList)) (⟨#[32]⟩ : ByteArray).data.toList = joinZ 32 P := by rw [e1]; exact join_joinZ 32 P
    have hj : (joinZ 32 P).length ≤ 1001000 := by
      have := join_len (b := 32) hs
      have h2 : (1000 + 1) * P.length ≤ 1001 * 1000 := Nat.mul_le_mul (by omega) hl
      omega
    have h := Tryd.strings_Join b off c (P.map bts) ⟨#[32]⟩ w (fun j x hj => by
      rw [List.getElem?_map, Option.map_eq_some_iff] at hj
      obtain ⟨y, hy, rfl⟩ := hj
      have := hcell j y hy 0 _ (show (stG y)[0]? = some (.string (bts y)) from rfl)
      simpa using this) hlt3 (by rw [List.length_map]; omega) (by rw [List.length_map]; exact hc) (by rw [e2]; omega)
    rw [List.length_map, e2] at h
    exact h
end Go.Proofs.YtoelekhkgknneaaDoor.Tx
