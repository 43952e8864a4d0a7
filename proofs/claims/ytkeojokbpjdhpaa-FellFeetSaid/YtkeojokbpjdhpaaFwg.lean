/- Fell: the hull by the reference, plain. -/
import Derived.Test.YtkeojokbpjdhpaaFwa
set_option linter.unusedSimpArgs false
set_option linter.unusedVariables false
namespace Go.Proofs.Ytkeojokbpjdhpaa
open Go.RowKit

/-- spot i is not held by the other ones -/
def lfI (l : List Sp) (i : Nat) : Bool := !heldB (l.take i ++ l.drop (i + 1)) (gl l i)
def leftK (l : List Sp) (k : Nat) : List Sp := ((List.range k).filter (lfI l)).map (gl l)
theorem leftK_zero (l : List Sp) : leftK l 0 = [] := rfl
theorem leftK_yes {l : List Sp} {k : Nat} (h : lfI l k = true) : leftK l (k + 1) = leftK l k ++ [gl l k] := by
  unfold leftK; rw [List.range_succ, List.filter_append, List.map_append]; simp [h]
theorem leftK_no {l : List Sp} {k : Nat} (h : lfI l k = false) : leftK l (k + 1) = leftK l k := by
  unfold leftK; rw [List.range_succ, List.filter_append, List.map_append]; simp [h]
theorem leftK_len (l : List Sp) (k : Nat) : (leftK l k).length ≤ k := by
  unfold leftK; rw [List.length_map]
  have := List.length_filter_le (lfI l) (List.range k)
  simpa using this
theorem map_gl (l : List Sp) : (List.range l.length).map (gl l) = l := by
  refine List.ext_getElem (by simp) fun i h1 h2 => ?_
  simp
  exact gl_of (List.getElem?_eq_getElem h2)
theorem leftK_sub (l : List Sp) : (leftK l l.length).Sublist l := by
  have := (show ((List.range l.length).filter (lfI l)).Sublist (List.range l.length) from List.filter_sublist).map (gl l)
  rwa [map_gl] at this
theorem mem_others {l : List Sp} (hn : l.Nodup) {i : Nat} (hi : i < l.length) {x : Sp} : x ∈ l.take i ++ l.drop (i + 1) ↔ x ∈ l ∧ x ≠ gl l i := by
  have e : l = l.take i ++ gl l i :: l.drop (i + 1) := by
    have h1 := List.getElem_cons_drop (h := hi)
    have h2 : l[i] = gl l i := (gl_of (List.getElem?_eq_getElem hi)).symm
    rw [h2] at h1
    rw [h1, List.take_append_drop]
  have hn' := hn
  rw [e] at hn'
  have hm := (List.perm_middle.nodup_iff).1 hn'
  obtain ⟨a1, _⟩ := List.nodup_cons.1 hm
  constructor
  · intro h
    refine ⟨?_, fun q => a1 (q ▸ h)⟩
    rw [e]
    rcases List.mem_append.1 h with h | h
    · exact List.mem_append_left _ h
    · exact List.mem_append_right _ (List.mem_cons_of_mem _ h)
  · rintro ⟨h1, h2⟩
    rw [e] at h1
    rcases List.mem_append.1 h1 with h | h
    · exact List.mem_append_left _ h
    · rcases List.mem_cons.1 h with h | h
      · exact absurd h h2
      · exact List.mem_append_right _ h
theorem lfI_iff {l s : List Sp} (hp : s.Perm l) (ha : Asc s) (hn : l.Nodup) {i : Nat} (hi : i < l.length) : lfI l i = true ↔ gl l i ∈ hul s := by
  have hm : gl l i ∈ s := hp.mem_iff.2 (List.mem_of_getElem? (gl_at hi))
  rw [corner_iff ha hm]
  unfold lfI
  rw [Bool.not_eq_true', Bool.eq_false_iff, ne_eq, heldB_iff]
  have e : Held (l.take i ++ l.drop (i + 1)) (gl l i) ↔ Held (oth s (gl l i)) (gl l i) :=
    ⟨fun h => h.mono fun x hx => by
      obtain ⟨h1, h2⟩ := (mem_others hn hi).1 hx
      exact mem_oth.2 ⟨hp.mem_iff.2 h1, h2⟩, fun h => h.mono fun x hx => by
      obtain ⟨h1, h2⟩ := mem_oth.1 hx
      exact (mem_others hn hi).2 ⟨hp.mem_iff.1 h1, h2⟩⟩
  rw [e]
theorem mem_leftK {l s : List Sp} (hp : s.Perm l) (ha : Asc s) (hn : l.Nodup) (x : Sp) : x ∈ leftK l l.length ↔ x ∈ hul s := by
  unfold leftK
  rw [List.mem_map]
  constructor
  · rintro ⟨i, hi, rfl⟩
    rw [List.mem_filter] at hi
    exact (lfI_iff hp ha hn (by simpa using hi.1)).1 hi.2
  · intro h
    obtain ⟨i, hi, e⟩ := List.getElem_of_mem (hp.mem_iff.1 (hul_sub ha x h))
    have e' : gl l i = x := gl_of (by rw [List.getElem?_eq_getElem hi, e])
    refine ⟨i, List.mem_filter.2 ⟨by simpa using hi, (lfI_iff hp ha hn hi).2 (e' ▸ h)⟩, e'⟩
theorem leftK_hul {l s : List Sp} (hp : s.Perm l) (ha : Asc s) (hn : l.Nodup) : (leftK l l.length).length = (hul s).length :=
  left_len ha ((leftK_sub l).nodup hn) (mem_leftK hp ha hn)
/-- the lowest one -/
def lowI (a b : Sp) : Bool := decide (a.y < b.y) || (decide (a.y = b.y) && decide (a.x < b.x))
theorem lowI_iff {a b : Sp} (ha : Bd 10000 a) (hb : Bd 10000 b) : lowI a b = true ↔ lam 1 100000 a < lam 1 100000 b := by
  unfold lowI lam Bd at *; simp; omega
def LowP (l : List Sp) (k : Nat) (f : Sp) : Prop := f ∈ l ∧ ∀ j, j < k → lam 1 100000 f ≤ lam 1 100000 (gl l j)
theorem low_first {l s : List Sp} {f : Sp} (ha : Asc s) (hl : ∀ x, x ∈ l ↔ x ∈ hul s) (h : LowP l l.length f) (h0 : 0 < (hul s).length) : (hul s)[0]? = some f := by
  obtain ⟨h1, h2⟩ := h
  by_cases hn : 2 ≤ s.length
  · obtain ⟨hP, hg'⟩ := hul_poly ha hn
    rw [hg' 0 h0]
    have hm : hg s 0 ∈ hul s := List.mem_of_getElem? (hg' 0 h0)
    by_cases e : f = hg s 0
    · rw [e]
    · exfalso
      have k1 := hul_low ha hn f ((hl f).1 h1) e
      obtain ⟨i, hi, e2⟩ := List.getElem_of_mem ((hl _).2 hm)
      have k2 := h2 i hi
      rw [gl_of (by rw [List.getElem?_eq_getElem hi, e2])] at k2
      omega
  · have hs := hul_short (s := s) (by omega)
    rw [hs] at h0 hl ⊢
    match s, h0, hn with
    | [a], _, _ =>
      have := (hl f).1 h1
      simp at this; simp [this]
    | a :: b :: r, _, hn => exfalso; apply hn; simp
/-- the next corner -/
theorem next_iff {l s : List Sp} {m : Nat} {last x : Sp} (ha : Asc s) (hl : ∀ x, x ∈ l ↔ x ∈ hul s) (hm : 0 < m) (hm2 : m < (hul s).length) (hx : x ∈ l) (hlast : (hul s)[m - 1]? = some last) : follows l last x = true ↔ (hul s)[m]? = some x := by
  have hn : 2 ≤ s.length := by
    rcases Nat.lt_or_ge s.length 2 with h | h
    · have := hul_short (s := s) h; rw [this] at hm2; omega
    · exact h
  obtain ⟨hP, hg'⟩ := hul_poly ha hn
  have e1 := hg' (m - 1) (by omega)
  rw [hlast] at e1
  cases Option.some.inj e1
  rw [follow_one ha hn hl (by omega) hx, hg' m hm2, show m - 1 + 1 = m by omega]
  exact ⟨fun h => by rw [h], fun h => (Option.some.inj h).symm⟩
end Go.Proofs.Ytkeojokbpjdhpaa
