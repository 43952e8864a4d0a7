/- Stack, walks over the reference's sums and measures. -/
import Derived.Test.YtoelekhkgknneaaDoorSm
import Derived.Test.YtoelekhkgknneaaDoorNum
namespace Go.Proofs.YtoelekhkgknneaaDoor
open Go.RowKit

structure Ov (l d r : List Course) (z a b c p : Int) : Prop where
  hz : z + hs r = hs d
  ha : a + wts r = wts d
  hb : b + es r = es d
  hc : c + ns r = ns d
  hp : p + push r + 2 * z * face r = push d
  z0 : 0 ≤ z
  a0 : 0 ≤ a
  p0 : 0 ≤ p

theorem ov_step {l d r : List Course} {x : Course} {z a b c p : Int} (hx : CB x) (h : Ov l d (x :: r) z a b c p) :
    Ov l d r (z + x.h) (a + x.wt) (b + x.wt * x.e) (c + x.wt * x.n) (p + x.o * x.h * (2 * z + x.h)) := by
  obtain ⟨h1, h2, h3, h4, h5, h6, h7a, h7⟩ := h
  obtain ⟨c1, c2, c3, c4, c5, c6, c7, c8, c9, c10, c11⟩ := hx
  simp only [hs, wts, es, ns, push, face] at *
  have h8 : 0 ≤ x.o * x.h * (2 * z + x.h) := Int.mul_nonneg (Int.mul_nonneg (by omega) (by omega)) (by omega)
  exact ⟨by omega, by omega, by omega, by omega, by grind, by omega, by omega, by omega⟩
structure OvB (x : Course) (z a b c p : Int) : Prop where
  z0 : 0 ≤ z
  z1 : z ≤ 120000
  a0 : 0 ≤ a
  a1 : a ≤ 60000000
  b0 : -600000000000 ≤ b
  b1 : b ≤ 600000000000
  c0 : -600000000000 ≤ c
  c1 : c ≤ 600000000000
  p0 : 0 ≤ p
  p1 : p ≤ 72000000000000
theorem ov_bounds {l d r : List Course} {x : Course} {z a b c p : Int} (hd : SB d) (hl : d.length ≤ 60) (hr : SB r) (hrl : r.length ≤ 60) (h : Ov l d r z a b c p) : OvB x z a b c p := by
  obtain ⟨h1, h2, h3, h4, h5, h6, h7a, h7⟩ := h
  obtain ⟨s1, s2, s3, s4, s5, s6, s7, s8, s9, s10, s11, s12⟩ := hd
  obtain ⟨t1, t2, t3, t4, t5, t6, t7, t8, t9, t10, t11, t12⟩ := hr
  have h8 : 0 ≤ 2 * z * face r := Int.mul_nonneg (by omega) (by omega)
  have h9 := mul_bd0 (a := (d.length : Int)) (b := d.length) (A := 60) (B := 60) (by omega) (by omega) (by omega) (by omega)
  exact ⟨by omega, by omega, by omega, by omega, by omega, by omega, by omega, by omega, by omega, by omega⟩

end Go.Proofs.YtoelekhkgknneaaDoor
