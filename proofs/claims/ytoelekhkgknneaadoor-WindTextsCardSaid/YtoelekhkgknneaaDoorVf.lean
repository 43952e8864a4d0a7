/- Wind: forecasts: ValidCasts by both. -/
import Derived.Test.YtoelekhkgknneaaDoorVe
set_option linter.unusedSimpArgs false
set_option linter.unusedVariables false
namespace Go.Proofs.YtoelekhkgknneaaDoor
open Go.RowKit

structure Ca where
  f : Int
  t : Int
  lo : Int
  hi : Int
def Ca.cs (x : Ca) : List Value := [.int .i64 x.f, .int .i64 x.t, .int .i64 x.lo, .int .i64 x.hi]
abbrev caV (x : Ca) : Value := .agg #[.int .i64 x.f, .int .i64 x.t, .int .i64 x.lo, .int .i64 x.hi]
theorem Ca.cs_len (a : Ca) : a.cs.length = 4 := rfl
def caAt (c : List Ca) (k : Nat) : Ca := c[k]?.getD ⟨0, 0, 0, 0⟩
theorem caAt_of {l : List Ca} {i : Nat} {p : Ca} (h : l[i]? = some p) : caAt l i = p := by simp [caAt, h]
theorem rdCa {w : World} {A : Option Addr} {l : List Ca} (h : Rd Ca.cs 4 w A l) {k : Nat} (hk : k < l.length) :
    ∃ x b off, l[k]? = some x ∧ A = some ⟨b, off, none⟩ ∧ b < w.heap.size ∧ w.cell? ⟨b, off + k * 4, none⟩ = some (.int .i64 x.f) ∧ w.cell? ⟨b, off + k * 4 + 1, none⟩ = some (.int .i64 x.t) ∧ w.cell? ⟨b, off + k * 4 + 2, none⟩ = some (.int .i64 x.lo) ∧ w.cell? ⟨b, off + k * 4 + 3, none⟩ = some (.int .i64 x.hi) := by
  obtain ⟨x, hx⟩ := get_lt hk
  obtain ⟨b, off, e, hb, hc⟩ := h.get hx
  exact ⟨x, b, off, hx, e, hb, hc 0 _ rfl, hc 1 _ rfl, hc 2 _ rfl, hc 3 _ rfl⟩
/-- a cast that is sound; and it does not begin before the one ahead of it ends -/
def okC (c : List Ca) (k : Nat) : Bool := decide (0 ≤ (caAt c k).f) && (decide ((caAt c k).f < (caAt c k).t) && (decide ((caAt c k).t ≤ 100000) && (wn (caAt c k).lo 0 (caAt c k).hi && (decide ((caAt c k).hi ≤ 200) && (decide (k = 0) || decide ((caAt c (k - 1)).t ≤ (caAt c k).f))))))
def vCa (c : List Ca) : Bool := (List.range c.length).all (okC c) && decide (c.length ≤ 200)
theorem okC_iff {c : List Ca} {k : Nat} : okC c k = true ↔ 0 ≤ (caAt c k).f ∧ (caAt c k).f < (caAt c k).t ∧ (caAt c k).t ≤ 100000 ∧ (0 ≤ (caAt c k).lo ∧ (caAt c k).lo ≤ (caAt c k).hi) ∧ (caAt c k).hi ≤ 200 ∧ (k = 0 ∨ (caAt c (k - 1)).t ≤ (caAt c k).f) := by
  unfold okC; simp [wn]
/-- what a valid forecast says -/
theorem vca {c : List Ca} (h : vCa c = true) : c.length ≤ 200 ∧ ∀ k, k < c.length → okC c k = true := by
  unfold vCa at h
  rw [Bool.and_eq_true, List.all_eq_true] at h
  exact ⟨by simpa using h.2, fun k hk => h.1 k (by simpa using hk)⟩
theorem vCa_no {c : List Ca} {k : Nat} (hk : k < c.length) (h : ¬ okC c k = true) : vCa c = false := by
  unfold vCa
  rw [Bool.and_eq_false_iff]; left
  rw [List.all_eq_false]
  exact ⟨k, by simpa using hk, h⟩
end Go.Proofs.YtoelekhkgknneaaDoor
