/- Stack: the walk of StackParts, whole. -/
import Derived.Test.YthoemokkfijfeaaPb
namespace Go.Proofs.Ythoemokkfijfeaa
open Go.RowKit

set_option maxHeartbeats 1000000 in
set_option maxRecDepth 100000 in
theorem l_parts (A : Option Addr) (l : List Course) (c : Nat) (bed p : Int) (w : World) (hl : l.length ≤ maxLen) (hR : Rd Course.cs 6 w A l) (_ : ∀ x ∈ l, True) (_ : (Lit.int .i64 bed).wf = true) (_ : (Lit.int .i64 p).wf = true) :
    Calls Try.prog 4 #[.slice A l.length c, .int .i64 bed, .int .i64 p] w fun e w' => e = .returned (.bool true) ∧ Below w.heap.size w w' := by
  unfold maxLen at hl
  by_cases h : l.length ≤ 60
  · by_cases h0 : 0 ≤ bed
    · by_cases h1 : bed < l.length
      · obtain ⟨n, rfl⟩ : ∃ n : Nat, bed = n := ⟨bed.toNat, by omega⟩
        cases hv : validC l
        · have K1 := s_weight A l c n w (by omega) hR
          have hE : weightR l n = (0, 1) := by unfold weightR askedE; simp [hv]
          rw [hE] at K1
          have H1 := Lib.hid K1
          clear hv hE K1
          go_enter Try.func4, Try.ntmps4
          go_wp2_with (first
            | (go_at_call 19; ((with_reducible refine H1.out.mono ?_); rintro e w1 ⟨rfl, b1⟩))
            | (go_at_call 14; ((with_reducible refine (s_awake _).mono ?_); rintro e w2 ⟨rfl, b2⟩)))
          go_ret
          exact ⟨rfl, below_tr b1 b2⟩
        · exact l_parts_in A l c n p w h hR hv (by omega)
      · go_enter Try.func4, Try.ntmps4
        go_wp2_with (go_at_call 14; ((with_reducible refine (s_awake _).mono ?_); rintro e w2 ⟨rfl, b2⟩))
        go_ret
        exact ⟨rfl, b2⟩
    · have hneg : bed < 0 := by omega
      go_enter Try.func4, Try.ntmps4
      go_wp2_with (go_at_call 14; ((with_reducible refine (s_awake _).mono ?_); rintro e w2 ⟨rfl, b2⟩))
      go_ret
      exact ⟨rfl, b2⟩
  · go_enter Try.func4, Try.ntmps4
    go_wp2_with (go_at_call 14; ((with_reducible refine (s_awake _).mono ?_); rintro e w2 ⟨rfl, b2⟩))
    go_ret
    exact ⟨rfl, b2⟩
end Go.Proofs.Ythoemokkfijfeaa
