/- Stack: the walk of StackSplits, whole. -/
import Derived.Test.YthoemokkfijfeaaPd
namespace Go.Proofs.Ythoemokkfijfeaa
open Go.RowKit

set_option maxHeartbeats 2000000 in
set_option maxRecDepth 100000 in
theorem l_splits (A : Option Addr) (l : List Course) (c : Nat) (n0 a n2 : Int) (w : World) (hl : l.length ≤ maxLen) (hR : Rd Course.cs 6 w A l) (_ : ∀ x ∈ l, True) (hlc : l.length ≤ c) (hcm : c ≤ maxLen) (_ : (Lit.int .i64 n0).wf = true) (_ : (Lit.int .i64 a).wf = true) (_ : (Lit.int .i64 n2).wf = true) :
    Calls Try.prog 7 #[.slice A l.length c, .agg #[.int .i64 n0, .int .i64 a, .int .i64 n2]] w fun e w' => e = .returned (.bool true) ∧ Below w.heap.size w w' := by
  unfold maxLen at hl
  by_cases h : l.length ≤ 60
  · have hl2 : l.length ≤ 100000 := by omega
    by_cases hE : splitE l n0 a = 0
    · have hask : askedE l n0 = 0 := by
        unfold splitE at hE
        by_cases h0 : askedE l n0 = 0
        · exact h0
        · rw [if_neg h0] at hE; exact hE
      obtain ⟨k, rfl, hk, hv⟩ := asked_zero hask
      obtain ⟨x, hx⟩ := get_lt hk
      have hX : splitX l x a = 0 := by rw [← splitE_of hask hx]; exact hE
      by_cases hb : 0 ≤ n2 ∧ n2 < l.length
      · obtain ⟨bed, rfl⟩ : ∃ bed : Nat, n2 = bed := ⟨n2.toNat, by omega⟩
        exact l_splits_in A l c k bed a x w h hlc hcm hR hv hx hX (by omega)
      · obtain ⟨hv2, hlen⟩ := split_valid hv hx hX
        have H0 := fun W (h : Below w.heap.size w W) => s_split A l c k a W hl2 hlc hcm (hR.on h)
        rw [hE] at H0
        generalize splitL l k a = L at *
        have H0 := Lib.hid H0
        have hk0 : (0 : Int) ≤ (k : Int) := by omega
        have hk1 : (k : Int) < (l.length : Int) := by omega
        have hq1 : ((L.length : Int) != (l.length : Int) + 1) = false := by simp; omega
        have hq2 : ((L.length : Int) == (l.length : Int) + 1) = true := by simp; omega
        have hkI : ¬ (l.length : Int) ≤ (k : Int) := by omega
        have hbb : (decide (n2 < 0) || decide ((l.length : Int) ≤ n2)) = true := by simp; omega
        clear hlen hE hask hx hX hv hv2
        by_cases hneg : n2 < 0
        · clear hbb
          go_enter Try.func7, Try.ntmps7
          go_wp2_with (first
      | (go_at_call 37; ((with_reducible refine (H0.out _ (below_alloc w (.cells #[.int .i64 k, .int .i64 a, .int .i64 n2] 40))).mono ?_); rintro e w1 ⟨v1, rfl, g1, c1⟩; obtain ⟨a1, m1, rfl, r1⟩ := got_rd0 g1; have b1 : Below w.heap.size w w1 := below_tr (below_alloc w (.cells #[.int .i64 k, .int .i64 a, .int .i64 n2] 40)) c1; have dn1 : Blk w1 (w.heap.size) 40 #[.int .i64 k, .int .i64 a, .int .i64 n2] := (by have h := (Blk.new w 40 #[.int .i64 k, .int .i64 a, .int .i64 n2]); (try simp only [World.size_alloc] at h); exact h.below c1 (by (try simp only [World.size_alloc]); omega)); have qn10 : w1.cell? ⟨w.heap.size, 0, none⟩ = some (.int .i64 k) := dn1.cell 0; have qn11 : w1.cell? ⟨w.heap.size, 1, none⟩ = some (.int .i64 a) := dn1.cell 1; have qn12 : w1.cell? ⟨w.heap.size, 2, none⟩ = some (.int .i64 n2) := dn1.cell 2; have yn1 : w.heap.size < w1.heap.size := dn1.lt))
      | (go_at_call 14; ((with_reducible refine (s_awake _).mono ?_); rintro e w8 ⟨rfl, c8⟩; have tok := trivial)))
          go_ret
          exact ⟨rfl, below_tr b1 c8⟩
        · have hge : (l.length : Int) ≤ n2 := by omega
          clear hbb
          go_enter Try.func7, Try.ntmps7
          go_wp2_with (first
      | (go_at_call 37; ((with_reducible refine (H0.out _ (below_alloc w (.cells #[.int .i64 k, .int .i64 a, .int .i64 n2] 40))).mono ?_); rintro e w1 ⟨v1, rfl, g1, c1⟩; obtain ⟨a1, m1, rfl, r1⟩ := got_rd0 g1; have b1 : Below w.heap.size w w1 := below_tr (below_alloc w (.cells #[.int .i64 k, .int .i64 a, .int .i64 n2] 40)) c1; have dn1 : Blk w1 (w.heap.size) 40 #[.int .i64 k, .int .i64 a, .int .i64 n2] := (by have h := (Blk.new w 40 #[.int .i64 k, .int .i64 a, .int .i64 n2]); (try simp only [World.size_alloc] at h); exact h.below c1 (by (try simp only [World.size_alloc]); omega)); have qn10 : w1.cell? ⟨w.heap.size, 0, none⟩ = some (.int .i64 k) := dn1.cell 0; have qn11 : w1.cell? ⟨w.heap.size, 1, none⟩ = some (.int .i64 a) := dn1.cell 1; have qn12 : w1.cell? ⟨w.heap.size, 2, none⟩ = some (.int .i64 n2) := dn1.cell 2; have yn1 : w.heap.size < w1.heap.size := dn1.lt))
      | (go_at_call 14; ((with_reducible refine (s_awake _).mono ?_); rintro e w8 ⟨rfl, c8⟩; have tok := trivial)))
          go_ret
          exact ⟨rfl, below_tr b1 c8⟩
    · have H0 := fun W (h : Below w.heap.size w W) => s_split A l c n0 a W hl2 hlc hcm (hR.on h)
      have H0 := Lib.hid H0
      have t1 : (splitE l n0 a != 0) = true := by simpa using hE
      generalize splitE l n0 a = E at *
      clear hE
      go_enter Try.func7, Try.ntmps7
      go_wp2_with (first
      | (go_at_call 37; ((with_reducible refine (H0.out _ (below_alloc w (.cells #[.int .i64 n0, .int .i64 a, .int .i64 n2] 40))).mono ?_); rintro e w1 ⟨v1, rfl, g1, c1⟩; obtain ⟨a1, m1, rfl, r1⟩ := got_rd g1; have b1 : Below w.heap.size w w1 := below_tr (below_alloc w (.cells #[.int .i64 n0, .int .i64 a, .int .i64 n2] 40)) c1; have dn1 : Blk w1 (w.heap.size) 40 #[.int .i64 n0, .int .i64 a, .int .i64 n2] := (by have h := (Blk.new w 40 #[.int .i64 n0, .int .i64 a, .int .i64 n2]); (try simp only [World.size_alloc] at h); exact h.below c1 (by (try simp only [World.size_alloc]); omega)); have qn10 : w1.cell? ⟨w.heap.size, 0, none⟩ = some (.int .i64 n0) := dn1.cell 0; have qn11 : w1.cell? ⟨w.heap.size, 1, none⟩ = some (.int .i64 a) := dn1.cell 1; have qn12 : w1.cell? ⟨w.heap.size, 2, none⟩ = some (.int .i64 n2) := dn1.cell 2; have yn1 : w.heap.size < w1.heap.size := dn1.lt))
      | (go_at_call 14; ((with_reducible refine (s_awake _).mono ?_); rintro e w8 ⟨rfl, c8⟩; have tok := trivial)))
      go_ret
      exact ⟨rfl, below_tr b1 c8⟩
  · go_enter Try.func7, Try.ntmps7
    go_wp2_with (go_at_call 14; ((with_reducible refine (s_awake _).mono ?_); rintro e w1 ⟨rfl, hb⟩))
    go_ret
    exact ⟨rfl, below_tr (below_alloc _ _) hb⟩
end Go.Proofs.Ythoemokkfijfeaa
