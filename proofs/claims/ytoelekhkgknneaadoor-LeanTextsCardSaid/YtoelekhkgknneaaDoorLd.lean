/- Lean: the line through two points; Make. -/
import Derived.Test.YtoelekhkgknneaaDoorLc
namespace Go.Proofs.YtoelekhkgknneaaDoor
open Go.RowKit

abbrev mkL (a b d : Int) : Value := lineV (m3 a b d a) (m3 a b d b) (m3 a b d d)
def thrA (p q : Pt) : Int := p.x * (q.h - p.h) - (q.x - p.x) * p.h
structure TB (p q : Pt) : Prop where
  d0 : -200000 ≤ q.h - p.h
  d1 : q.h - p.h ≤ 200000
  b0 : -20000 ≤ q.x - p.x
  b1 : q.x - p.x ≤ 20000
  m0 : -2000000000 ≤ p.x * (q.h - p.h)
  m1 : p.x * (q.h - p.h) ≤ 2000000000
  n0 : -4000000000 ≤ (q.x - p.x) * p.h
  n1 : (q.x - p.x) * p.h ≤ 4000000000
theorem tb_of {p q : Pt} (hp : SP p) (hq : SP q) : TB p q := by
  obtain ⟨p1, p2, p3, p4⟩ := hp
  obtain ⟨q1, q2, q3, q4⟩ := hq
  have m := mul_bd (a := p.x) (b := q.h - p.h) (A := 10000) (B := 200000) (by omega) p4 (by omega) (by omega)
  have n := mul_bd (a := q.x - p.x) (b := p.h) (A := 20000) (B := 200000) (by omega) (by omega) (by omega) p2
  exact ⟨by omega, by omega, by omega, by omega, by omega, by omega, by omega, by omega⟩
theorem thrA_swap (p q : Pt) : thrA q p = -thrA p q := by
  unfold thrA; grind
theorem fits_le {n B : Int} (h1 : -B ≤ n) (h2 : n ≤ B) (hB : B ≤ 9000000000000000000) : Fits n := ⟨by omega, by omega⟩

set_option maxHeartbeats 1000000 in
set_option maxRecDepth 20000 in
/-- for p below q -/
theorem p_through_up (p q : Pt) (w : World) (hp : SP p) (hq : SP q) (h : p.h < q.h) :
    Calls Tryd.prog 136 #[.agg #[.int .i64 p.h, .int .i64 p.x], .agg #[.int .i64 q.h, .int .i64 q.x]] w fun e w' => e = .returned (mkL (thrA p q) (q.x - p.x) (q.h - p.h)) ∧ Below w.heap.size w w' := by
  obtain ⟨d0, d1, b0, b1, m0, m1, n0, n1⟩ := tb_of hp hq
  have e1 : IntKind.i64.wrap (q.x - p.x) = q.x - p.x := fits_wrap ⟨by omega, by omega⟩
  have e2 : IntKind.i64.wrap (p.x * (q.h - p.h)) = p.x * (q.h - p.h) := fits_wrap ⟨by omega, by omega⟩
  have e3 : IntKind.i64.wrap ((q.x - p.x) * p.h) = (q.x - p.x) * p.h := fits_wrap ⟨by omega, by omega⟩
  have e4 : IntKind.i64.wrap (p.x * (q.h - p.h) - (q.x - p.x) * p.h) = p.x * (q.h - p.h) - (q.x - p.x) * p.h := fits_wrap ⟨by omega, by omega⟩
  have H := Lib.hid (fun W => p_made (thrA p q) (q.x - p.x) (q.h - p.h) W (by unfold thrA; exact ⟨by omega, by omega⟩) ⟨by omega, by omega⟩ ⟨by omega, by omega⟩ (by omega))
  have hpos : 0 ≤ q.h - p.h := by omega
  obtain ⟨p1, p2, p3, p4⟩ := hp
  obtain ⟨q1, q2, q3, q4⟩ := hq
  go_enter Tryd.func136, Tryd.ntmps136
  go_wp2
  go_quiet (fail)
  clear e1 e2 e3 e4
  go_wp2_with (fail)
  refine (H.out _).mono ?_
  rintro e w1 ⟨rfl, hb⟩
  have D0 := (Blk.drewN (Blk.new ((w.alloc (.cells #[.int .i64 p.h, .int .i64 p.x] 106)).alloc (.cells #[.int .i64 q.h, .int .i64 q.x] 106)) 102 #[.int .i64 0, .int .i64 0, .int .i64 0]) nq).below hb (by simp [World.heap_drewN])
  rw [World.size_alloc, World.size_alloc] at D0
  have c0 : w1.cell? ⟨w.heap.size + 1 + 1, 0, none⟩ = some (.int .i64 0) := D0.cell 0
  have c1 : w1.cell? ⟨w.heap.size + 1 + 1, 1, none⟩ = some (.int .i64 0) := D0.cell 1
  have c2 : w1.cell? ⟨w.heap.size + 1 + 1, 2, none⟩ = some (.int .i64 0) := D0.cell 2
  have f0 := D0.frozen 0
  have f1 := D0.frozen 1
  have f2 := D0.frozen 2
  go_wp2
  refine bodyPost_ret (res_c rfl rfl (load_line (((D0.set_ 0 _).set_ 1 _).set_ 2 _))) rfl ⟨rfl, ?_⟩
  exact (((below_tr (below_drewN (below_tr (below_tr (below_alloc _ _) (below_alloc _ _)) (below_alloc _ _)) _) hb).setCell (by simp; omega) _).setCell (by simp; omega) _).setCell (by simp; omega) _
theorem thrA_down (p q : Pt) : thrA q p = -(p.x * (q.h - p.h) - (q.x - p.x) * p.h) := by unfold thrA; grind
set_option maxHeartbeats 1000000 in
set_option maxRecDepth 20000 in
/-- for p above q -/
theorem p_through_down (p q : Pt) (w : World) (hp : SP p) (hq : SP q) (h : q.h < p.h) :
    Calls Tryd.prog 136 #[.agg #[.int .i64 p.h, .int .i64 p.x], .agg #[.int .i64 q.h, .int .i64 q.x]] w fun e w' => e = .returned (mkL (thrA q p) (p.x - q.x) (p.h - q.h)) ∧ Below w.heap.size w w' := by
  obtain ⟨d0, d1, b0, b1, m0, m1, n0, n1⟩ := tb_of hp hq
  have e1 : IntKind.i64.wrap (q.x - p.x) = q.x - p.x := fits_wrap ⟨by omega, by omega⟩
  have e2 : IntKind.i64.wrap (p.x * (q.h - p.h)) = p.x * (q.h - p.h) := fits_wrap ⟨by omega, by omega⟩
  have e3 : IntKind.i64.wrap ((q.x - p.x) * p.h) = (q.x - p.x) * p.h := fits_wrap ⟨by omega, by omega⟩
  have e4 : IntKind.i64.wrap (p.x * (q.h - p.h) - (q.x - p.x) * p.h) = p.x * (q.h - p.h) - (q.x - p.x) * p.h := fits_wrap ⟨by omega, by omega⟩
  have H := Lib.hid (fun W => p_made (thrA q p) (p.x - q.x) (p.h - q.h) W (by rw [thrA_down]; exact ⟨by omega, by omega⟩) ⟨by omega, by omega⟩ ⟨by omega, by omega⟩ (by omega))
  have hneg : q.h - p.h < 0 := by omega
  have HT := Lib.hid (thrA_down p q)
  obtain ⟨p1, p2, p3, p4⟩ := hp
  obtain ⟨q1, q2, q3, q4⟩ := hq
  go_enter Tryd.func136, Tryd.ntmps136
  go_wp2
  go_quiet (fail)
  clear e1 e2 e3 e4
  go_wp2_with (fail)
  rw [← HT.out, Int.neg_sub, Int.neg_sub]
  refine (H.out _).mono ?_
  rintro e w1 ⟨rfl, hb⟩
  have D0 := (Blk.drewN (Blk.new ((w.alloc (.cells #[.int .i64 p.h, .int .i64 p.x] 106)).alloc (.cells #[.int .i64 q.h, .int .i64 q.x] 106)) 102 #[.int .i64 0, .int .i64 0, .int .i64 0]) nq).below hb (by simp [World.heap_drewN])
  rw [World.size_alloc, World.size_alloc] at D0
  have c0 : w1.cell? ⟨w.heap.size + 1 + 1, 0, none⟩ = some (.int .i64 0) := D0.cell 0
  have c1 : w1.cell? ⟨w.heap.size + 1 + 1, 1, none⟩ = some (.int .i64 0) := D0.cell 1
  have c2 : w1.cell? ⟨w.heap.size + 1 + 1, 2, none⟩ = some (.int .i64 0) := D0.cell 2
  have f0 := D0.frozen 0
  have f1 := D0.frozen 1
  have f2 := D0.frozen 2
  go_wp2
  refine bodyPost_ret (res_c rfl rfl (load_line (((D0.set_ 0 _).set_ 1 _).set_ 2 _))) rfl ⟨rfl, ?_⟩
  exact (((below_tr (below_drewN (below_tr (below_tr (below_alloc _ _) (below_alloc _ _)) (below_alloc _ _)) _) hb).setCell (by simp; omega) _).setCell (by simp; omega) _).setCell (by simp; omega) _
end Go.Proofs.YtoelekhkgknneaaDoor
