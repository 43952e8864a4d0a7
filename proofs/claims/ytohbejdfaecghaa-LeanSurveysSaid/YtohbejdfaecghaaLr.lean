/- Lean: LeanReaches, walked. -/
import Derived.Test.YtohbejdfaecghaaLq
import Derived.Test.YtohbejdfaecghaaLi
namespace Go.Proofs.Ytohbejdfaecghaa
open Go.RowKit

set_option maxHeartbeats 1000000 in
set_option maxRecDepth 20000 in
theorem l_reaches (a b : Mk) (f t lim : Int) (w : World) :
    Calls Try.prog 7 #[.agg #[.int .i64 a.h, .int .i64 a.e, .int .i64 a.n], .agg #[.int .i64 b.h, .int .i64 b.e, .int .i64 b.n], .agg #[.int .i64 f, .int .i64 t, .int .i64 lim]] w fun e w' => e = .returned (.bool true) ∧ Below w.heap.size w w' := by
  have P1 := fun W => p_Reaches a b f t lim W
  have P2 := fun W => r_Reaches a b f t lim W
  generalize (rch a b f t lim).1 = r1 at P1 P2
  generalize (rch a b f t lim).2 = r2 at P1 P2
  have P1 := Lib.hid P1
  have P2 := Lib.hid P2
  go_enter Try.func7, Try.ntmps7
  go_wp2_with (first
    | (go_at_call 33; ((with_reducible refine (P2.out _).mono ?_); rintro e w2 ⟨rfl, c2⟩))
    | (go_at_call 32; ((with_reducible refine (P1.out _).mono ?_); rintro e w1 ⟨rfl, c1⟩; have A1 := (((Blk.new w 48 #[.int .i64 a.h, .int .i64 a.e, .int .i64 a.n]).alloc (.cells #[.int .i64 b.h, .int .i64 b.e, .int .i64 b.n] 48)).alloc (.cells #[.int .i64 f, .int .i64 t, .int .i64 lim] 49)).below c1 (by simp; omega); have B1 := ((blk_second w (.cells #[.int .i64 a.h, .int .i64 a.e, .int .i64 a.n] 48) 48 #[.int .i64 b.h, .int .i64 b.e, .int .i64 b.n]).alloc (.cells #[.int .i64 f, .int .i64 t, .int .i64 lim] 49)).below c1 (by simp); have C1 := (blk_second (w.alloc (.cells #[.int .i64 a.h, .int .i64 a.e, .int .i64 a.n] 48)) (.cells #[.int .i64 b.h, .int .i64 b.e, .int .i64 b.n] 48) 49 #[.int .i64 f, .int .i64 t, .int .i64 lim]).below c1 (by simp); rw [World.size_alloc] at C1; obtain ⟨x0, x1, x2⟩ := load_mk A1; obtain ⟨y0, y1, y2⟩ := load_mk B1; have z0 : w1.cell? ⟨w.heap.size + 1 + 1, 0, none⟩ = some (.int .i64 f) := C1.cell 0; have z1 : w1.cell? ⟨w.heap.size + 1 + 1, 1, none⟩ = some (.int .i64 t) := C1.cell 1; have z2 : w1.cell? ⟨w.heap.size + 1 + 1, 2, none⟩ = some (.int .i64 lim) := C1.cell 2))
    | (go_at_call 17; ((with_reducible refine (p_awake _).mono ?_); rintro e w3 ⟨rfl, c3⟩)))
  go_ret
  exact ⟨rfl, below_tr (below_tr (below_tr (below_tr (below_tr (below_alloc _ _) (below_alloc _ _)) (below_alloc _ _)) c1) c2) c3⟩
end Go.Proofs.Ytohbejdfaecghaa
