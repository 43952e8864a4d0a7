/- Stack: slices.Grow at nil, slices.Concat of stacks. -/
import Derived.Test.YthoemokkfijfeaaMc
import Derived.Lib.Walk
import Derived.Lib.AppendZerosOnto
namespace Go.Proofs.Ythoemokkfijfeaa
open Go.RowKit

set_option maxHeartbeats 1000000 in
set_option maxRecDepth 20000 in
theorem s_grow (n : Nat) (w : World) (h1 : 1 ≤ n) (h2 : n ≤ 1000) :
    Calls Try.prog 89 #[.slice none 0 0, .int .i64 n] w fun e w' => ∃ v, e = .returned v ∧ w'.ownsRow w.heap.size 35 6 v 0 [] ∧ Below w.heap.size w w' := by
  obtain ⟨i0, hi, hi1, hi2, hi3⟩ := info_course
  have hG := grownCap_ge w (0 + n) 0 35
  have hG2 := grownCap_le_maxLen w (0 + n) 0 35 (by unfold maxLen; omega)
  have hfit : Builtin.nextslicecap (0 + n) 0 * i0.bytes ≤ 281474976710656 := by rw [hi3]; exact growslice_fits (by omega) (by omega)
  have hrz : ∀ ty, _ := fun ty => Lib.run_append_grow_zeros w 22 3 ty 35 i0 _ .i64 .i64 Try.underlying22 Try.underlying3 hi hi1 none 0 0 [] (run_firstCells_none w.drew i0.size 0 0 0) n (by omega) (by omega) (by omega) (by omega) (by rw [hi3]; omega) hfit
  generalize grownCap w (0 + n) 0 35 = G at *
  rw [Nat.zero_add] at hrz
  have hrz2 : ∃ CS : Array Value, CS.size = G * 6 ∧ ∀ ty, (Builtin.append_ #[22, 3] ty #[.slice none 0 0, .int .i64 n]).run Try.prog w = .ok (.slice (some ⟨w.heap.size, 0, none⟩) n G) (w.drew.alloc (.cells CS 35)) := by
    refine ⟨_, ?_, hrz⟩
    simp only [Array.size_append, size_zeroCells]
    rw [show (Value.agg #[.int .i64 0, .int .i64 0, .int .i64 0, .int .i64 0, .int .i64 0, .int .i64 0]).cells.size = 6 from rfl, show (#[] : Array Value).size = 0 from rfl]
    omega
  obtain ⟨CS, hCS, hrun⟩ := hrz2
  have HS := Lib.hid hCS
  have HR := Lib.hid hrun
  have hG3 := hG2
  unfold maxLen at hG2
  clear hfit hrz hCS hrun hi hi1 hi2 hi3
  go_enter Try.func89, Try.ntmps89
  go_wp2_with (at_builtin; refine Lib.wpList_append_run _ rfl _ _ _ _ rfl _ _ rfl rfl _ _ (HR.out _) ?_)
  go_ret
  refine ⟨_, rfl, ⟨rfl, .inr ⟨w.heap.size, G, CS, rfl, Nat.le_refl _, heap_alloc_new w.drew _, Nat.zero_le _, hG3, HS.out, by simp⟩⟩, ?_⟩
  exact (below_alloc w _).drew
end Go.Proofs.Ythoemokkfijfeaa
