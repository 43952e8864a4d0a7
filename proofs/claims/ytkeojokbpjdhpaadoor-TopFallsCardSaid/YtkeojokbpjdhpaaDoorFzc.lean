/- Fell: Widest by both. -/
import Derived.Test.YtkeojokbpjdhpaaDoorFza
import Derived.Test.YtkeojokbpjdhpaaDoorFw
set_option linter.unusedSimpArgs false
set_option linter.unusedVariables false
namespace Go.Proofs.YtkeojokbpjdhpaaDoor
open Go.RowKit

/-- with this width nothing is in the zone -/
def NH (f t : Sp) (r : Int) (l : List Sp) (n : Int) : Prop := ∀ x ∈ l, inZ ⟨f, t, r, n⟩ x = false
theorem inZ_iff {z : Zn} {s : Sp} : inZ z s = true ↔ okz z s = true ∧ 1000 * bez z s ≤ z.w * alz z s := by unfold inZ; simp
theorem okz_al {z : Zn} {s : Sp} (h : okz z s = true) : 0 ≤ alz z s := by
  unfold okz at h; rw [Bool.and_eq_true, decide_eq_true_eq] at h; exact h.1
theorem inZ_mono {f t : Sp} {r n m : Int} {s : Sp} (hnm : n ≤ m) (h : inZ ⟨f, t, r, n⟩ s = true) : inZ ⟨f, t, r, m⟩ s = true := by
  rw [inZ_iff] at h ⊢
  obtain ⟨h1, h2⟩ := h
  have h0 := okz_al h1
  refine ⟨h1, ?_⟩
  have : n * alz ⟨f, t, r, n⟩ s ≤ m * alz ⟨f, t, r, n⟩ s := Int.mul_le_mul_of_nonneg_right hnm h0
  exact Int.le_trans h2 this
theorem NH.mono {f t : Sp} {r n m : Int} {l : List Sp} (hnm : n ≤ m) (h : NH f t r l m) : NH f t r l n := fun x hx => by
  cases e : inZ ⟨f, t, r, n⟩ x
  · rfl
  · have := h x hx
    rw [inZ_mono hnm e] at this; cases this
/-- what Widest answers, behind its checks -/
def WdP (f t : Sp) (r : Int) (l : List Sp) (n E : Int) : Prop :=
  (E = 0 ∧ 0 ≤ n ∧ n ≤ 1000 ∧ NH f t r l n ∧ (n = 1000 ∨ ¬ NH f t r l (n + 1))) ∨ (E = 8 ∧ n = 0 ∧ ¬ NH f t r l 0)
theorem wdP_uniq {f t : Sp} {r : Int} {l : List Sp} {n E n' E' : Int} (h : WdP f t r l n E) (h' : WdP f t r l n' E') : n = n' ∧ E = E' := by
  rcases h with ⟨e, n0, n1, nh, nx⟩ | ⟨e, n0, nh⟩ <;> rcases h' with ⟨e', n0', n1', nh', nx'⟩ | ⟨e', n0', nh'⟩
  · refine ⟨?_, by omega⟩
    rcases (by omega : n = n' ∨ n < n' ∨ n' < n) with a | a | a
    · exact a
    · rcases nx with b | b
      · omega
      · exact absurd (nh'.mono (by omega)) b
    · rcases nx' with b | b
      · omega
      · exact absurd (nh.mono (by omega)) b
  · exact absurd (nh.mono n0) nh'
  · exact absurd (nh'.mono n0') nh
  · omega
def wdE (f t : Sp) (r : Int) (l : List Sp) : Int := if (isS f && (isS t && ((wn r 1 20000 && wn 0 0 1000) && thB l))) = true then (if f.x = t.x ∧ f.y = t.y then 10 else 0) else 7
/-- the whole answer -/
def WiP (f t : Sp) (r : Int) (l : List Sp) (n E : Int) : Prop := (wdE f t r l ≠ 0 ∧ n = 0 ∧ E = wdE f t r l) ∨ (wdE f t r l = 0 ∧ WdP f t r l n E)
theorem wiP_uniq {f t : Sp} {r : Int} {l : List Sp} {n E n' E' : Int} (h : WiP f t r l n E) (h' : WiP f t r l n' E') : n = n' ∧ E = E' := by
  rcases h with ⟨a, b, c⟩ | ⟨a, b⟩ <;> rcases h' with ⟨a', b', c'⟩ | ⟨a', b'⟩
  · omega
  · omega
  · omega
  · exact wdP_uniq b b'
/-- the widths up to m - 1, over the first k -/
def LeP (f t : Sp) (r : Int) (l : List Sp) (k : Nat) (m : Int) : Prop := m ≤ 1000 ∧ (∀ n, 0 ≤ n → n ≤ m → NH f t r (l.take k) n) ∧ (m = 1000 ∨ ¬ NH f t r (l.take k) (m + 1)) ∧ -1 ≤ m
theorem nh_take {f t : Sp} {r n : Int} {l : List Sp} {k : Nat} {x : Sp} (hx : l[k]? = some x) : NH f t r (l.take (k + 1)) n ↔ NH f t r (l.take k) n ∧ inZ ⟨f, t, r, n⟩ x = false := by
  unfold NH
  rw [List.take_add_one, hx]
  simp only [Option.toList_some, List.mem_append, List.mem_singleton]
  constructor
  · intro h; exact ⟨fun y hy => h y (.inl hy), h x (.inr rfl)⟩
  · rintro ⟨h1, h2⟩ y (hy | rfl)
    · exact h1 y hy
    · exact h2
theorem le_start (f t : Sp) (r : Int) (l : List Sp) : LeP f t r l 0 1000 := ⟨by omega, fun n _ _ x hx => by simp at hx, .inl rfl, by omega⟩
/-- one that is never in -/
theorem le_never {f t : Sp} {r m : Int} {l : List Sp} {k : Nat} {x : Sp} (hx : l[k]? = some x) (h : LeP f t r l k m) (hn : ∀ n, inZ ⟨f, t, r, n⟩ x = false) : LeP f t r l (k + 1) m := by
  obtain ⟨h1, h2, h3, h4⟩ := h
  refine ⟨h1, fun n n0 hn' => (nh_take hx).2 ⟨h2 n n0 hn', hn n⟩, ?_, h4⟩
  rcases h3 with h3 | h3
  · exact .inl h3
  · exact .inr fun hh => h3 ((nh_take hx).1 hh).1
/-- one that is in from width d on -/
theorem le_from {f t : Sp} {r m d : Int} {l : List Sp} {k : Nat} {x : Sp} (hx : l[k]? = some x) (h : LeP f t r l k m) (hd0 : 0 ≤ d) (hd : ∀ n, inZ ⟨f, t, r, n⟩ x = decide (d ≤ n)) : LeP f t r l (k + 1) (min m (d - 1)) := by
  obtain ⟨h1, h2, h3, h4⟩ := h
  refine ⟨by omega, fun n n0 hn' => (nh_take hx).2 ⟨h2 n n0 (by omega), by rw [hd, decide_eq_false (by omega)]⟩, ?_, by omega⟩
  rcases (by omega : m ≤ d - 1 ∨ d - 1 < m) with q | q
  · rw [show min m (d - 1) = m by omega]
    rcases h3 with h3 | h3
    · exact .inl h3
    · exact .inr fun hh => h3 ((nh_take hx).1 hh).1
  · rw [show min m (d - 1) = d - 1 by omega]
    refine .inr fun hh => ?_
    have := ((nh_take hx).1 hh).2
    rw [hd, decide_eq_true (by omega)] at this; cases this
theorem le_end {f t : Sp} {r m : Int} {l : List Sp} (h : LeP f t r l l.length m) : (0 ≤ m → WdP f t r l m 0) ∧ (m < 0 → WdP f t r l 0 8) := by
  obtain ⟨h1, h2, h3, h4⟩ := h
  rw [List.take_length] at h2 h3
  refine ⟨fun h0 => .inl ⟨rfl, h0, h1, h2 m h0 (Int.le_refl _), h3⟩, fun h0 => .inr ⟨rfl, rfl, ?_⟩⟩
  obtain rfl : m = -1 := by omega
  rcases h3 with h3 | h3
  · omega
  · simpa using h3
/-- one that is always in -/
theorem always_none {f t : Sp} {r : Int} {l : List Sp} {x : Sp} (hx : x ∈ l) (h : inZ ⟨f, t, r, 0⟩ x = true) : WdP f t r l 0 8 := .inr ⟨rfl, rfl, fun hh => by have := hh x hx; rw [h] at this; cases this⟩
/-- the least width -/
theorem least_is {be al n : Int} (ha : 0 < al) : decide (1000 * be ≤ n * al) = decide ((1000 * be + al - 1) / al ≤ n) := by
  rw [decide_eq_decide, ← Int.lt_add_one_iff (a := (1000 * be + al - 1) / al), Int.ediv_lt_iff_lt_mul ha, Int.add_mul]
  omega
end Go.Proofs.YtkeojokbpjdhpaaDoor
