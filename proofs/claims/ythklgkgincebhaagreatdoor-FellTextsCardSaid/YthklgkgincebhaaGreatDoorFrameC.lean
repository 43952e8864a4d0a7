/- Arguments that come in: a slice with its capacity; a struct by value. -/
import Derived.Test.YthklgkgincebhaaGreatDoorFrame
namespace Go.Proofs.YthklgkgincebhaaGreatDoor
open Go.ChangeShapes Go.WideShapes Go.ChangeAt Go.RowKit Go.Deep Go.Joins
section
variable {H : Type} {enc : TypeId × Value → H} {P : Program} {w : World} {base : Nat} {spare : Nat → Bool} {held : Bool}
/-- The capacity of a slice that comes in. -/
theorem open_cap {t e : TypeId} {A : Option Addr} {n c : Nat} {d : DataW H} {p : List MemPlace} (ht : P.underlying t = some (.slice e)) (h : DataW.Trod enc P w base spare held t (.slice A n c) d p) : n ≤ c ∧ c ≤ maxLen := by
  obtain ⟨fuel, hf⟩ := h
  rcases open_slice ht hf with ⟨hcs, _⟩ | ⟨a, len, cap, m, n', D, Pl, hcs, _, hl, hm, _⟩
  · simp [Value.cells] at hcs
    obtain ⟨rfl, rfl, rfl⟩ := hcs
    exact ⟨Nat.le_refl _, Nat.zero_le _⟩
  · simp [Value.cells] at hcs
    obtain ⟨rfl, rfl, rfl⟩ := hcs
    exact ⟨hl, hm⟩
theorem open_rdc {α : Type} (encα : α → List Value) (ok : α → Prop) (sz : Nat) {t e : TypeId} {r : Reach} {b0 : Nat} {v : Value} {d : DataW H} {p : List MemPlace} (ht : P.underlying t = some (.slice e)) (hC : P.cellsOf e = sz) (hz : 0 < sz)
    (hdec : ∀ n cs x, DataW.trod enc P w base spare held n e cs = some x → ∃ a : α, cs = encα a ∧ ok a)
    (hval : Value.okWide P w r b0 t v) (h : DataW.Trod enc P w base spare held t v d p) :
    ∃ (A : Option Addr) (l : List α) (c : Nat), v = .slice A l.length c ∧ Rd encα sz w A l ∧ l.length ≤ maxLen ∧ (∀ a ∈ l, ok a) ∧ l.length ≤ c ∧ c ≤ maxLen := by
  obtain ⟨A, l, c, rfl, h1, h2, h3⟩ := open_rd encα ok sz ht hC hz hdec hval h
  exact ⟨A, l, c, rfl, h1, h2, h3, (open_cap ht h).1, (open_cap ht h).2⟩
theorem open_aggv {α : Type} (encα : α → List Value) (ok : α → Prop) {t : TypeId} {fs : Array Field} {r : Reach} {b0 : Nat} {v : Value} {d : DataW H} {p : List MemPlace} (ht : P.underlying t = some (.struct fs))
    (hdec : ∀ n cs x, DataW.trod enc P w base spare held n t cs = some x → ∃ a : α, cs = encα a ∧ ok a)
    (hval : Value.okWide P w r b0 t v) (h : DataW.Trod enc P w base spare held t v d p) : ∃ a : α, v = .agg (encα a).toArray ∧ ok a := by
  simp only [Value.okWide, ht] at hval
  obtain ⟨cs, rfl, _⟩ := hval
  obtain ⟨fuel, hf⟩ := h
  obtain ⟨a, ha, hok⟩ := hdec _ _ _ hf
  have hcs : (Value.agg cs).cells.toList = cs.toList := by simp [Value.cells]
  rw [hcs] at ha
  exact ⟨a, by rw [← ha], hok⟩
end
end Go.Proofs.YthklgkgincebhaaGreatDoor
