/- Fell: zones, plain. -/
import Derived.Test.YthklgkgincebhaaGreatDoorFa
import Derived.Laws.StructEq
set_option linter.unusedSimpArgs false
set_option linter.unusedVariables false
namespace Go.Proofs.YthklgkgincebhaaGreatDoor
open Go.RowKit

structure Zn where
  f : Sp
  t : Sp
  r : Int
  w : Int
abbrev znV (z : Zn) : Value := .agg #[.int .i64 z.f.x, .int .i64 z.f.y, .int .i64 z.t.x, .int .i64 z.t.y, .int .i64 z.r, .int .i64 z.w]
abbrev znC (z : Zn) : Array Value := #[.int .i64 z.f.x, .int .i64 z.f.y, .int .i64 z.t.x, .int .i64 z.t.y, .int .i64 z.r, .int .i64 z.w]
abbrev spA (a : Sp) : Array Value := #[.int .i64 a.x, .int .i64 a.y]
/-- how far along, how far beside; whether it is neither behind nor beyond -/
def alz (z : Zn) (s : Sp) : Int := vdot (vec z.t z.f) (vec s z.f)
def bez (z : Zn) (s : Sp) : Int := max (vcr (vec z.t z.f) (vec s z.f)) (-vcr (vec z.t z.f) (vec s z.f))
def okz (z : Zn) (s : Sp) : Bool := decide (0 ≤ alz z s) && decide (alz z s * alz z s ≤ z.r * z.r * vdot (vec z.t z.f) (vec z.t z.f))
theorem dot_bd {n a b : Int} {p q : Sp} (hp : Bd a p) (hq : Bd b q) (hn : 2 * (a * b) = n) : -n ≤ vdot p q ∧ vdot p q ≤ n ∧ -n ≤ vcr p q ∧ vcr p q ≤ n := by
  have m1 := mul_bd hp.1 hp.2.1 hq.1 hq.2.1
  have m2 := mul_bd hp.2.2.1 hp.2.2.2 hq.2.2.1 hq.2.2.2
  have m3 := mul_bd hp.1 hp.2.1 hq.2.2.1 hq.2.2.2
  have m4 := mul_bd hp.2.2.1 hp.2.2.2 hq.1 hq.2.1
  unfold vdot vcr; omega
/-- zones whose numbers are small -/
structure ZB (z : Zn) : Prop where
  f : Bd 10000 z.f
  t : Bd 10000 z.t
  r0 : 0 ≤ z.r
  r1 : z.r ≤ 20000
theorem blk_new1 {w : World} {g : Nat} {t : TypeId} {cs : Array Value} (h : g = w.heap.size) : Blk (w.alloc (.cells cs t)) g t cs := h ▸ Blk.new w t cs
theorem blk_set2 {w : World} {g : Nat} {t : TypeId} {a b : Value} (x y : Value) (h : Blk w g t #[a, b]) : Blk ((w.setCell ⟨g, 0, none⟩ x).setCell ⟨g, 1, none⟩ y) g t #[x, y] := by
  have := (h.set_ 0 x).set_ 1 y
  simpa using this
end Go.Proofs.YthklgkgincebhaaGreatDoor
