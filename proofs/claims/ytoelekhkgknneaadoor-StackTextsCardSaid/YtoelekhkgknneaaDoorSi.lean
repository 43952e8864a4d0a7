/- Stack: the chapter's course has its arm in the wind. -/
import Derived.Test.YtoelekhkgknneaaDoorSh
namespace Go.Proofs.YtoelekhkgknneaaDoor
open Go.RowKit

def awC : Course := ⟨1000, 500, 300, 1000, 0, 0⟩
theorem aw_arm : armR [awC] 0 100 2 = ((5000, 981), (0, 1), 0) := by decide +kernel

set_option maxRecDepth 20000 in
theorem s_awake (w : World) : Calls Tryd.prog 23 #[] w fun e w' => e = .returned (.bool true) ∧ Below w.heap.size w w' := by
  have hR : Rd Course.cs 6 (w.alloc (.cells #[.int .i64 1000, .int .i64 500, .int .i64 300, .int .i64 1000, .int .i64 0, .int .i64 0] 91)) (some ⟨w.heap.size, 0, none⟩) [awC] := fun _ => by
    refine ⟨w.heap.size, 0, rfl, by simp, fun k x hx j v hv => ?_⟩
    have hk : k = 0 := by
      rcases Nat.lt_or_ge k 1 with h | h
      · omega
      · rw [List.getElem?_eq_none (by simpa using h)] at hx; cases hx
    subst hk
    cases hx
    rw [show 0 + 0 * 6 + j = j from by omega]
    exact (Blk.cell (Blk.new w _ _) j).trans (by simpa [Course.cs, awC] using hv)
  have HC := Lib.hid (s_arm (some ⟨w.heap.size, 0, none⟩) [awC] 1 0 100 2 _ (by decide) hR)
  rw [aw_arm] at HC
  simp only [rat] at HC
  go_enter Tryd.func23, Tryd.ntmps23
  go_wp2_with (go_at_call 57; refine HC.out.mono ?_; rintro e w1 ⟨rfl, hb⟩)
  go_ret
  exact ⟨rfl, (((below_tr (below_alloc _ _) hb).alloc (by have := hb.size; simp at this; omega) _).alloc (by have := hb.size; simp at this; simp; omega) _)⟩

end Go.Proofs.YtoelekhkgknneaaDoor
