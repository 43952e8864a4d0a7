/- Wind cards: what spans cover, and what behind Resumes is (plain). -/
import Derived.Test.YtkigdjfagcnejaaDoorDf
set_option linter.unusedSimpArgs false
set_option linter.unusedVariables false
namespace Go.Proofs.YtkigdjfagcnejaaDoor
open Go.RowKit

/-- the three ways of a step -/
theorem spS_ways (p : Nat → Bool) (n : Nat) : (p n = false ∧ spS p (n + 1) = spS p n) ∨ (p n = true ∧ ∃ s a, spS p n = s ++ [(a, n)] ∧ spS p (n + 1) = s ++ [(a, n + 1)]) ∨ (p n = true ∧ (∀ a b, (spS p n).getLast? = some (a, b) → b ≠ n) ∧ spS p (n + 1) = spS p n ++ [(n, n + 1)]) := by
  cases hp : p n
  · exact Or.inl ⟨rfl, spS_no hp⟩
  · right
    rcases List.eq_nil_or_concat (spS p n) with hS | ⟨s, ⟨a, b⟩, hS⟩
    · exact Or.inr ⟨rfl, by rw [hS]; simp, spS_new hp (by rw [hS]; simp)⟩
    · rw [List.concat_eq_append] at hS
      by_cases hb : b = n
      · subst hb
        exact Or.inl ⟨rfl, s, a, hS, spS_long hp hS⟩
      · have : ∀ a' b', (spS p n).getLast? = some (a', b') → b' ≠ n := by
          rw [hS, List.getLast?_concat]; intro _ _ e; cases e; exact hb
        exact Or.inr ⟨rfl, this, spS_new hp this⟩
theorem spS_apart (p : Nat → Bool) : ∀ n, (spS p n).Pairwise (fun x y => x.2 < y.1)
  | 0 => List.Pairwise.nil
  | n + 1 => by
    have ih := spS_apart p n
    have hbd := spS_bd p n
    rcases spS_ways p n with ⟨_, h⟩ | ⟨_, s, a, h1, h⟩ | ⟨_, h1, h⟩
    · rw [h]; exact ih
    · rw [h1, List.pairwise_append] at ih
      rw [h, List.pairwise_append]
      refine ⟨ih.1, List.pairwise_singleton _ _, fun x hx y hy => ?_⟩
      rw [List.mem_singleton] at hy
      subst hy
      exact ih.2.2 x hx (a, n) (List.mem_singleton.2 rfl)
    · rw [h, List.pairwise_append]
      refine ⟨ih, List.pairwise_singleton _ _, fun x hx y hy => ?_⟩
      rw [List.mem_singleton] at hy
      subst hy
      show x.2 < n
      have h2 := (hbd x hx).2
      rcases List.eq_nil_or_concat (spS p n) with hS | ⟨s, ⟨a, b⟩, hS⟩
      · rw [hS] at hx; cases hx
      · rw [List.concat_eq_append] at hS
        have h3 : b ≠ n := h1 a b (by rw [hS, List.getLast?_concat])
        have h4 := hbd (a, b) (by rw [hS]; simp)
        rw [hS, List.mem_append, List.mem_singleton] at hx
        rcases hx with hx | rfl
        · rw [hS, List.pairwise_append] at ih
          have h5 : x.2 < a := ih.2.2 x hx (a, b) (List.mem_singleton.2 rfl)
          have h6 : a < b := h4.1
          have h7 : b ≤ n := h4.2
          omega
        · show b < n
          have h7 : b ≤ n := h4.2
          omega
theorem spS_cov (p : Nat → Bool) : ∀ n i, i < n → (p i = true ↔ ∃ x ∈ spS p n, x.1 ≤ i ∧ i < x.2)
  | 0, i, h => by omega
  | n + 1, i, hi => by
    have ih := spS_cov p n i
    have hbd := spS_bd p n
    rcases spS_ways p n with ⟨hp, h⟩ | ⟨hp, s, a, h1, h⟩ | ⟨hp, _, h⟩
    · rw [h]
      by_cases e : i = n
      · subst e
        rw [hp]
        constructor
        · intro h; cases h
        · rintro ⟨x, hx, _, h3⟩
          have := (hbd x hx).2
          omega
      · exact ih (by omega)
    · rw [h]
      rw [h1] at ih hbd
      by_cases e : i = n
      · subst e
        have h2 := hbd (a, i) (by simp)
        exact ⟨fun _ => ⟨(a, i + 1), by simp, by have : a < i := h2.1; show a ≤ i; omega, by show i < i + 1; omega⟩, fun _ => hp⟩
      · rw [ih (by omega)]
        constructor
        · rintro ⟨x, hx, h3, h4⟩
          rw [List.mem_append, List.mem_singleton] at hx
          rcases hx with hx | rfl
          · exact ⟨x, by simp [hx], h3, h4⟩
          · exact ⟨(a, n + 1), by simp, h3, by show i < n + 1; omega⟩
        · rintro ⟨x, hx, h3, h4⟩
          rw [List.mem_append, List.mem_singleton] at hx
          rcases hx with hx | rfl
          · exact ⟨x, by simp [hx], h3, h4⟩
          · exact ⟨(a, n), by simp, h3, by show i < n; omega⟩
    · rw [h]
      by_cases e : i = n
      · subst e
        exact ⟨fun _ => ⟨(i, i + 1), by simp, by show i ≤ i; omega, by show i < i + 1; omega⟩, fun _ => hp⟩
      · rw [ih (by omega)]
        constructor
        · rintro ⟨x, hx, h3, h4⟩
          exact ⟨x, by simp [hx], h3, h4⟩
        · rintro ⟨x, hx, h3, h4⟩
          rw [List.mem_append, List.mem_singleton] at hx
          rcases hx with hx | rfl
          · exact ⟨x, hx, h3, h4⟩
          · have : n ≤ i := h3
            omega
/-- the span at which a minute is looked for -/
theorem sp_in {p : Nat → Bool} {n i k : Nat} (hi : i < n) (h1 : ∀ j x, j < k → (spS p n)[j]? = some x → x.2 ≤ i) (h2 : ∀ x, (spS p n)[k]? = some x → i < x.2) : (p i = true ↔ ∃ x, (spS p n)[k]? = some x ∧ x.1 ≤ i) := by
  rw [spS_cov p n i hi]
  constructor
  · rintro ⟨x, hx, h3, h4⟩
    obtain ⟨j, hj⟩ := List.getElem?_of_mem hx
    have hjl := (List.getElem?_eq_some_iff.1 hj).1
    rcases Nat.lt_trichotomy j k with h | h | h
    · have := h1 j x h hj; omega
    · subst h; exact ⟨x, hj, h3⟩
    · obtain ⟨y, hy⟩ := get_lt (show k < (spS p n).length by omega)
      have h5 := h2 y hy
      have h6 := List.pairwise_iff_getElem.1 (spS_apart p n) k j (by omega) hjl h
      rw [(List.getElem?_eq_some_iff.1 hy).2, (List.getElem?_eq_some_iff.1 hj).2] at h6
      omega
  · rintro ⟨x, hx, h3⟩
    exact ⟨x, List.mem_of_getElem? hx, h3, h2 x hx⟩
theorem stA_pre {r : Ru} {l z : List Int} : ∀ k, k ≤ l.length → stA r (l ++ z) k = stA r l k
  | 0, _ => rfl
  | k + 1, h => by
    rw [stA, stA, stA_pre k (by omega)]
    congr 1
    rw [List.getD_eq_getElem?_getD, List.getD_eq_getElem?_getD, List.getElem?_append_left (by omega)]
theorem stA_calm {r : Ru} {l : List Int} (hv : vRu r = true) (h0 : 0 ≤ stA r l l.length) (m : Nat) : ∀ j : Nat, j ≤ m → (j : Int) + stA r l l.length ≤ r.c → stA r (l ++ List.replicate m 0) (l.length + j) = if (j : Int) + stA r l l.length < r.c then (j : Int) + stA r l l.length else -1
  | 0, _, _ => by
    have := stA_bd hv l l.length
    rw [Nat.add_zero, stA_pre _ (Nat.le_refl _), if_pos (by simp; omega)]; simp
  | j + 1, hj, hc => by
    have hr := vru hv
    have ih := stA_calm hv h0 m j (by omega) (by omega)
    rw [if_pos (by omega)] at ih
    rw [show l.length + (j + 1) = l.length + j + 1 by omega, stA, ih]
    have hg : (l ++ List.replicate m 0).getD (l.length + j) 0 = 0 := by
      rw [List.getD_eq_getElem?_getD, List.getElem?_append_right (by omega)]
      rw [List.getElem?_replicate]
      split <;> rfl
    rw [hg]
    unfold nx
    rw [if_neg (by omega), if_neg (by omega)]
    by_cases h : (j : Int) + stA r l l.length + 1 = r.c
    · rw [if_pos h, if_neg (by omega)]
    · rw [if_neg h, if_pos (by omega)]; omega
theorem vGu_calm {l : List Int} {m : Nat} (h : vGu l = true) (hm : l.length + m ≤ 2000) : vGu (l ++ List.replicate m 0) = true := by
  unfold vGu at h ⊢
  rw [Bool.and_eq_true] at h ⊢
  refine ⟨?_, by rw [List.length_append, List.length_replicate]; simp; omega⟩
  rw [List.all_append, h.1]
  simp [wn]
theorem aE_calm {r : Ru} {l : List Int} {m : Nat} (h : aE r l = 0) (hm : l.length + m ≤ 2000) : aE r (l ++ List.replicate m 0) = 0 := by
  obtain ⟨h1, h2⟩ := a_z h
  unfold aE
  rw [h1, vGu_calm h2 hm]; rfl
theorem rs_bd {r : Ru} {l : List Int} (h : rsE r l = 0) : ∃ m : Nat, rsN r l = m ∧ 1 ≤ m ∧ (m : Int) ≤ r.c ∧ (m : Int) ≤ 240 := by
  unfold rsE at h
  split at h
  · rename_i h1
    split at h
    · omega
    · rename_i h2
      obtain ⟨hv, _⟩ := a_z h1
      have b := stA_bd hv l l.length
      have hr := vru hv
      have h3 : rsE r l = 0 := by unfold rsE; rw [if_pos h1, if_neg h2]
      have h4 : rsN r l = r.c - stA r l l.length := by unfold rsN; rw [if_pos h3]
      exact ⟨(r.c - stA r l l.length).toNat, by omega, by omega, by omega, by omega⟩
  · omega
/-- behind Resumes' calm minutes work goes again, and no minute sooner -/
theorem rs_more {r : Ru} {l : List Int} {m : Nat} (h : rsE r l = 0) (hm : rsN r l = (m : Nat)) (hl : l.length ≤ 300) : rsE r (l ++ List.replicate m 0) = 10 ∧ rsE r (l ++ List.replicate (m - 1) 0) = 0 := by
  obtain ⟨m', h1, h2, h3, h4⟩ := rs_bd h
  have e : m = m' := by omega
  subst e
  have hN : rsN r l = r.c - stA r l l.length := by unfold rsN; rw [if_pos h]
  unfold rsE at h
  split at h
  · rename_i ha
    split at h
    · omega
    · rename_i hs
      obtain ⟨hv, _⟩ := a_z ha
      constructor
      · have h5 := stA_calm (l := l) hv (by omega) m m (Nat.le_refl _) (by omega)
        rw [if_neg (by omega)] at h5
        unfold rsE
        rw [if_pos (aE_calm ha (by omega)), List.length_append, List.length_replicate, h5, if_pos (by omega)]
      · have h5 := stA_calm (l := l) hv (by omega) (m - 1) (m - 1) (Nat.le_refl _) (by omega)
        rw [if_pos (by omega)] at h5
        unfold rsE
        rw [if_pos (aE_calm ha (by omega)), List.length_append, List.length_replicate, h5, if_neg (by omega)]
  · omega
end Go.Proofs.YtkigdjfagcnejaaDoor
