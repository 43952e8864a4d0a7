/- Stack: arms in a wind. -/
import Derived.Test.YtoelekhkgknneaaDoorSf
namespace Go.Proofs.YtoelekhkgknneaaDoor
open Go.RowKit

def mvE (side : Int) : Int := if side = 0 then -1 else if side = 2 then 1 else 0
def mvN (side : Int) : Int := if side = 1 then -1 else if side = 3 then 1 else 0
def armE (x : Course) (s : List Course) (p side : Int) : Int := (es s - wts s * x.e) * 9810000 + mvE side * p * push s
def armN (x : Course) (s : List Course) (p side : Int) : Int := (ns s - wts s * x.n) * 9810000 + mvN side * p * push s

structure AB (x : Course) (s : List Course) (p : Int) : Prop where
  we0 : -300000000000 ≤ wts s * x.e
  we1 : wts s * x.e ≤ 300000000000
  wn0 : -300000000000 ≤ wts s * x.n
  wn1 : wts s * x.n ≤ 300000000000
  e0 : -300000000000 ≤ es s
  e1 : es s ≤ 300000000000
  n0 : -300000000000 ≤ ns s
  n1 : ns s ≤ 300000000000
  pp0 : 0 ≤ p * push s
  pp1 : p * push s ≤ 720000000000000000
  p0 : 0 ≤ push s
  p1 : push s ≤ 72000000000000
  w0 : 0 ≤ wts s
  w1 : wts s ≤ 60000000
theorem ab_of {x : Course} {s : List Course} {p : Int} (hx : CB x) (hs : s.all soundB = true) (hl : s.length ≤ 60) (hp0 : 0 ≤ p) (hp1 : p ≤ 10000) : AB x s p := by
  obtain ⟨s1, s2, s3, s4, s5, s6, s7, s8, s9, s10, s11, s12⟩ := sb_of hs
  obtain ⟨d1, d2, d3, d4, d5, d6, d7, d8, d9, d10, d11⟩ := hx
  have q := mul_bd0 (a := (s.length : Int)) (b := s.length) (A := 60) (B := 60) (by omega) (by omega) (by omega) (by omega)
  have m1 := mul_bd (a := wts s) (b := x.e) (A := 60000000) (B := 5000) (by omega) (by omega) d8 d9
  have m2 := mul_bd (a := wts s) (b := x.n) (A := 60000000) (B := 5000) (by omega) (by omega) d10 d11
  have m3 := mul_bd0 (a := p) (b := push s) (A := 10000) (B := 72000000000000) hp0 hp1 (by omega) (by omega)
  exact ⟨by omega, by omega, by omega, by omega, by omega, by omega, by omega, by omega, by omega, by omega, by omega, by omega, by omega, by omega⟩

abbrev moves : Value := .agg #[.int .i64 (-1), .int .i64 0, .int .i64 0, .int .i64 (-1), .int .i64 1, .int .i64 0, .int .i64 0, .int .i64 1]
theorem run_move0 (W : World) : (Instr.index 166 moves (.int .i64 0)).run Tryd.prog W = .ok (.agg #[.int .i64 (-1), .int .i64 0]) W := by kernel_rfl
theorem run_move1 (W : World) : (Instr.index 166 moves (.int .i64 1)).run Tryd.prog W = .ok (.agg #[.int .i64 0, .int .i64 (-1)]) W := by kernel_rfl
theorem run_move2 (W : World) : (Instr.index 166 moves (.int .i64 2)).run Tryd.prog W = .ok (.agg #[.int .i64 1, .int .i64 0]) W := by kernel_rfl
theorem run_move3 (W : World) : (Instr.index 166 moves (.int .i64 3)).run Tryd.prog W = .ok (.agg #[.int .i64 0, .int .i64 1]) W := by kernel_rfl
set_option maxHeartbeats 1000000 in
set_option maxRecDepth 20000 in
theorem s_arms (x : Course) (s : List Course) (p side : Int) (w : World) (hp0 : 0 ≤ p) (hp1 : p ≤ 10000) (hs0 : 0 ≤ side) (hs1 : side ≤ 3) (hb : AB x s p) :
    Calls Tryd.prog 96 #[.agg #[.int .i64 x.h, .int .i64 x.o, .int .i64 x.i, .int .i64 x.wt, .int .i64 x.e, .int .i64 x.n],
      .agg #[.int .i64 (wts s), .int .i64 (es s), .int .i64 (ns s), .int .i64 (hs s), .int .i64 (push s)], .int .i64 p, .int .i64 side] w fun e w' =>
      e = .returned (.tuple #[.int .i64 (armE x s p side), .int .i64 (armN x s p side)]) ∧ Below w.heap.size w w' := by
  obtain ⟨b1, b2, b3, b4, b5, b6, b7, b8, b9, b10, b11, b12, b13, b14⟩ := hb
  have b15 : -p * push s = -(p * push s) := Int.neg_mul _ _
  have b16 : -720000000000000000 ≤ -p * push s := by omega
  have b17 : -p * push s ≤ 0 := by omega
  have B15 := Lib.hid b15
  clear b15
  have i0 := run_move0
  have i1 := run_move1
  have i2 := run_move2
  have i3 := run_move3
  rcases (by omega : side = 0 ∨ side = 1 ∨ side = 2 ∨ side = 3) with rfl | rfl | rfl | rfl
  all_goals
    go_enter Tryd.func96, Tryd.ntmps96
    go_wp2
    go_ret2
    exact ⟨ret_tup2 (int_eq (by simp [armE, mvE])) (int_eq (by simp [armN, mvN])), ((below_alloc _ _).alloc (by simp) _).alloc (by simp; omega) _⟩
end Go.Proofs.YtoelekhkgknneaaDoor
