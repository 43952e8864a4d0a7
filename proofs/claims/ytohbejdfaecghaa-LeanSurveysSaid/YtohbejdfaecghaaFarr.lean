/- Arguments that come in: arrays of numbers. -/
import Derived.Test.YtohbejdfaecghaaFrame
import Derived.WideKeyArr2
namespace Go.Proofs.Ytohbejdfaecghaa
open Go.ChangeShapes Go.WideShapes Go.ChangeAt Go.RowKit Go.Deep Go.Joins

section
variable {H : Type} {enc : TypeId × Value → H} {P : Program} {w : World} {base : Nat} {spare : Nat → Bool} {held : Bool}
theorem open_arr {t e : TypeId} {n : Nat} {r : Reach} {b0 : Nat} {v : Value} {d : DataW H} {p : List MemPlace} (ht : P.underlying t = some (.array n e)) (he : P.underlying e = some (.int .i64)) (hC : P.cellsOf e = 1) (hS : P.cellsOf t = n)
    (hval : Value.okWide P w r b0 t v) (h : DataW.Trod enc P w base spare held t v d p) :
    ∃ xs : Array Value, v = .agg xs ∧ xs.size = n ∧ ∀ i, i < n → ∃ z, xs[i]? = some (.int .i64 z) ∧ (Lit.int .i64 z).wf = true := by
  simp only [Value.okWide, ht] at hval
  obtain ⟨cs, rfl, h2, _⟩ := hval
  obtain ⟨fuel, hf⟩ := h
  obtain ⟨xs, m, _, _, hl, hxl, hx⟩ := DataW.trod_array ht hf
  refine ⟨cs, rfl, by rw [h2, hS], fun i hi => ?_⟩
  have h3 := hx i hi
  have hcs : (Value.agg cs).cells.toList = cs.toList := by simp [Value.cells]
  rw [hC, hcs, Nat.mul_one, List.getElem?_eq_getElem (by omega)] at h3
  rw [hcs, hS] at hl
  rw [List.drop_eq_getElem_cons (by omega)] at h3
  obtain ⟨z, hz, _, hw⟩ := DataW.trod_int he h3
  simp at hz
  refine ⟨z, ?_, hw⟩
  rw [Array.getElem?_eq_getElem (by simpa using (by omega : i < cs.toList.length))]
  rw [hz]

theorem open_arr2 {t e : TypeId} {r : Reach} {b0 : Nat} {v : Value} {d : DataW H} {p : List MemPlace} (ht : P.underlying t = some (.array 2 e)) (he : P.underlying e = some (.int .i64)) (hC : P.cellsOf e = 1) (hS : P.cellsOf t = 2)
    (hval : Value.okWide P w r b0 t v) (h : DataW.Trod enc P w base spare held t v d p) :
    ∃ a0 a1 : Int, v = .agg #[.int .i64 a0, .int .i64 a1] ∧ (Lit.int .i64 a0).wf = true ∧ (Lit.int .i64 a1).wf = true := by
  obtain ⟨xs, rfl, hsz, hx⟩ := open_arr ht he hC hS hval h
  obtain ⟨a0, h0, w0⟩ := hx 0 (by omega)
  obtain ⟨a1, h1, w1⟩ := hx 1 (by omega)
  refine ⟨a0, a1, ?_, w0, w1⟩
  congr 1
  apply Array.ext_getElem?
  intro i
  rcases Nat.lt_or_ge i 2 with hi | hi
  · rcases (by omega : i = 0 ∨ i = 1) with rfl | rfl
    · rw [h0]; rfl
    · rw [h1]; rfl
  · rw [Array.getElem?_eq_none (by omega), Array.getElem?_eq_none (by simp; omega)]

theorem open_arr3 {t e : TypeId} {r : Reach} {b0 : Nat} {v : Value} {d : DataW H} {p : List MemPlace} (ht : P.underlying t = some (.array 3 e)) (he : P.underlying e = some (.int .i64)) (hC : P.cellsOf e = 1) (hS : P.cellsOf t = 3)
    (hval : Value.okWide P w r b0 t v) (h : DataW.Trod enc P w base spare held t v d p) :
    ∃ a0 a1 a2 : Int, v = .agg #[.int .i64 a0, .int .i64 a1, .int .i64 a2] ∧ (Lit.int .i64 a0).wf = true ∧ (Lit.int .i64 a1).wf = true ∧ (Lit.int .i64 a2).wf = true := by
  obtain ⟨xs, rfl, hsz, hx⟩ := open_arr ht he hC hS hval h
  obtain ⟨a0, h0, w0⟩ := hx 0 (by omega)
  obtain ⟨a1, h1, w1⟩ := hx 1 (by omega)
  obtain ⟨a2, h2, w2⟩ := hx 2 (by omega)
  refine ⟨a0, a1, a2, ?_, w0, w1, w2⟩
  congr 1
  apply Array.ext_getElem?
  intro i
  rcases Nat.lt_or_ge i 3 with hi | hi
  · rcases (by omega : i = 0 ∨ i = 1 ∨ i = 2) with rfl | rfl | rfl
    · rw [h0]; rfl
    · rw [h1]; rfl
    · rw [h2]; rfl
  · rw [Array.getElem?_eq_none (by omega), Array.getElem?_eq_none (by simp; omega)]

theorem open_arr4 {t e : TypeId} {r : Reach} {b0 : Nat} {v : Value} {d : DataW H} {p : List MemPlace} (ht : P.underlying t = some (.array 4 e)) (he : P.underlying e = some (.int .i64)) (hC : P.cellsOf e = 1) (hS : P.cellsOf t = 4)
    (hval : Value.okWide P w r b0 t v) (h : DataW.Trod enc P w base spare held t v d p) :
    ∃ a0 a1 a2 a3 : Int, v = .agg #[.int .i64 a0, .int .i64 a1, .int .i64 a2, .int .i64 a3] ∧ (Lit.int .i64 a0).wf = true ∧ (Lit.int .i64 a1).wf = true ∧ (Lit.int .i64 a2).wf = true ∧ (Lit.int .i64 a3).wf = true := by
  obtain ⟨xs, rfl, hsz, hx⟩ := open_arr ht he hC hS hval h
  obtain ⟨a0, h0, w0⟩ := hx 0 (by omega)
  obtain ⟨a1, h1, w1⟩ := hx 1 (by omega)
  obtain ⟨a2, h2, w2⟩ := hx 2 (by omega)
  obtain ⟨a3, h3, w3⟩ := hx 3 (by omega)
  refine ⟨a0, a1, a2, a3, ?_, w0, w1, w2, w3⟩
  congr 1
  apply Array.ext_getElem?
  intro i
  rcases Nat.lt_or_ge i 4 with hi | hi
  · rcases (by omega : i = 0 ∨ i = 1 ∨ i = 2 ∨ i = 3) with rfl | rfl | rfl | rfl
    · rw [h0]; rfl
    · rw [h1]; rfl
    · rw [h2]; rfl
    · rw [h3]; rfl
  · rw [Array.getElem?_eq_none (by omega), Array.getElem?_eq_none (by simp; omega)]
end
end Go.Proofs.Ytohbejdfaecghaa
