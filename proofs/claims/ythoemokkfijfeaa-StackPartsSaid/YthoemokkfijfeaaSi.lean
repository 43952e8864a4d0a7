/- Stack: the chapter's course has its arm in the wind. -/
import Derived.Test.YthoemokkfijfeaaSh
namespace Go.Proofs.Ythoemokkfijfeaa
open Go.RowKit

def awC : Course := ⟨1000, 500, 300, 1000, 0, 0⟩
theorem aw_arm : armR [awC] 0 100 2 = ((5000, 981), (0, 1), 0) := by decide +kernel

set_option maxRecDepth 20000 in
theorem s_awake (w : World) : Calls Try.prog 14 #[] w fun e w' => e = .returned (.bool true) ∧ Below w.heap.size w w' := by
  have hR : Rd Course.cs 6 (w.alloc (.cells #[.int .i64 1000, .int .i64 500, .int .i64 300, .int .i64 1000, .int .i64 0, .int .i64 0] 35)) (some ⟨w.heap.size, 0, none⟩) [awC] := fun _ => by
    refine ⟨w.heap.size, 0, rfl, by simp, fun k x hx j v hv => ?_⟩
    have hk : k = 0 := by
      rcases Nat.lt_or_ge k 1 with h | h
      · omega
      · rw [List.getElem?_eq_none (by simpa using h)] at hx; cases hx
    subst hk
    cases hx
    rw [show 0 + 0 * 6 + j = j from by omega]
    exact (Blk.cell (Blk.new w _ _) j).trans (by simpa [Course.cs, awC] using hv)
  have HC := Lib.hid (s_arm (some ⟨w.heap.size, 0, none⟩) [awC] 1 0 100 2 _ (by decide) hR)
  rw [aw_arm] at HC
  simp only [rat] at HC
  go_enter Try.func14, Try.ntmps14
  go_wp2_with (go_at_call 30; refine HC.out.mono ?_; rintro e w1 ⟨rfl, hb⟩)
  go_ret
  exact ⟨rfl, (((below_tr (below_alloc _ _) hb).alloc (by have := hb.size; simp at this; omega) _).alloc (by have := hb.size; simp at this; simp; omega) _)⟩

set_option maxHeartbeats 2000000 in
set_option maxRecDepth 20000 in
theorem l_sums (A : Option Addr) (l : List Course) (c : Nat) (bed : Int) (w : World) (hl : l.length ≤ maxLen) (hR : Rd Course.cs 6 w A l) (_ : ∀ x ∈ l, True) (_ : (Lit.int .i64 bed).wf = true) :
    Calls Try.prog 3 #[.slice A l.length c, .int .i64 bed] w fun e w' => e = .returned (.bool true) ∧ Below w.heap.size w w' := by
  unfold maxLen at hl
  by_cases h : l.length ≤ 100
  · have hl2 : l.length ≤ 100000 := by omega
    have H1 := Lib.hid (fun W (h : Below w.heap.size w W) => s_height A l c W hl2 (hR.on h))
    have H2 := Lib.hid (fun W (h : Below w.heap.size w W) => r_height A l c W hl2 (hR.on h))
    have H3 := Lib.hid (fun W (h : Below w.heap.size w W) => s_valid A l c W hl2 (hR.on h))
    have H4 := Lib.hid (fun W (h : Below w.heap.size w W) => r_valid A l c W hl2 (hR.on h))
    have H5 := Lib.hid (fun W (h : Below w.heap.size w W) => s_weight A l c bed W hl2 (hR.on h))
    have H6 := Lib.hid (fun W (h : Below w.heap.size w W) => r_weight A l c bed W hl2 (hR.on h))
    have H7 := Lib.hid (fun W (h : Below w.heap.size w W) => s_centre A l c bed W hl2 (hR.on h))
    have H8 := Lib.hid (fun W (h : Below w.heap.size w W) => r_centre A l c bed W hl2 (hR.on h))
    simp only [rat] at H7 H8
    go_enter Try.func3, Try.ntmps3
    go_wp2_with (first
      | (go_at_call 15; refine (H1.out _ (below_refl _)).mono ?_; rintro e w1 ⟨rfl, b1⟩)
      | (go_at_call 16; refine (H2.out _ b1).mono ?_; rintro e w2 ⟨rfl, c2⟩; have b2 := below_tr b1 c2)
      | (go_at_call 17; refine (H3.out _ b2).mono ?_; rintro e w3 ⟨rfl, c3⟩; have b3 := below_tr b2 c3)
      | (go_at_call 18; refine (H4.out _ b3).mono ?_; rintro e w4 ⟨rfl, c4⟩; have b4 := below_tr b3 c4)
      | (go_at_call 19; refine (H5.out _ b4).mono ?_; rintro e w5 ⟨rfl, c5⟩; have b5 := below_tr b4 c5)
      | (go_at_call 20; refine (H6.out _ b5).mono ?_; rintro e w6 ⟨rfl, c6⟩; have b6 := below_tr b5 c6)
      | (go_at_call 21; refine (H7.out _ b6).mono ?_; rintro e w7 ⟨rfl, c7⟩; have b7 := below_tr b6 c7)
      | (go_at_call 22; refine (H8.out _ (by exact below_tr (below_tr b7 (below_alloc _ _)) (below_alloc _ _))).mono ?_; rintro e w8 ⟨rfl, c8⟩; obtain ⟨hc8, hf8⟩ := bcell c8; have z8 : w7.heap.size + 1 < w8.heap.size := (by have := c8.size; simp at this; omega); have y8 : w7.heap.size < w8.heap.size := (by omega))
      | (go_at_call 14; refine (s_awake _).mono ?_; rintro e w9 ⟨rfl, c9⟩))
    go_ret
    exact ⟨rfl, below_tr (below_tr (below_tr (below_tr (below_tr (below_tr b7 (below_alloc _ _)) (below_alloc _ _)) c8) (below_alloc _ _)) (below_alloc _ _)) c9⟩
  · go_enter Try.func3, Try.ntmps3
    go_wp2_with (go_at_call 14; refine (s_awake _).mono ?_; rintro e w1 ⟨rfl, hb⟩)
    go_ret
    exact ⟨rfl, hb⟩
end Go.Proofs.Ythoemokkfijfeaa
