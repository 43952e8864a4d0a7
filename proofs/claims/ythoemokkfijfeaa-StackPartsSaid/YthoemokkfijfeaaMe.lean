/- Stack: slices.Concat of stacks. -/
import Derived.Test.YthoemokkfijfeaaMd
namespace Go.Proofs.Ythoemokkfijfeaa
open Go.RowKit

def tot (Ls : List (List Course)) : Nat := (Ls.map List.length).sum
theorem tot_snoc {Ls : List (List Course)} {k : Nat} {x : List Course} (h : Ls[k]? = some x) : tot (Ls.take (k + 1)) = tot (Ls.take k) + x.length := by
  rw [List.take_add_one, h]; simp [tot]
theorem flatten_snoc {Ls : List (List Course)} {k : Nat} {x : List Course} (h : Ls[k]? = some x) : flat (Ls.take (k + 1)).flatten = flat (Ls.take k).flatten ++ flat x := by
  rw [List.take_add_one, h]; simp [flat]
theorem tot_le (Ls : List (List Course)) (k : Nat) : tot (Ls.take k) ≤ tot Ls := by
  have : tot Ls = tot (Ls.take k) + tot (Ls.drop k) := by rw [tot, tot, tot, ← List.sum_append, ← List.map_append, List.take_append_drop]
  omega
theorem tot_flatten (Ls : List (List Course)) : Ls.flatten.length = tot Ls := by simp [tot, List.length_flatten]

set_option maxHeartbeats 1000000 in
set_option maxRecDepth 20000 in
theorem s_concat (B cp : Nat) (Ls : List (List Course)) (w : World) (h1 : 1 ≤ tot Ls) (h2 : tot Ls ≤ 1000) (hm : Ls.length ≤ 1000)
    (hL : ∀ (k : Nat) x, Ls[k]? = some x → ∃ b off c, w.cell? ⟨B, k, none⟩ = some (.slice (some ⟨b, off, none⟩) x.length c) ∧ Rd Course.cs 6 w (some ⟨b, off, none⟩) x) :
    Calls Try.prog 75 #[.slice (some ⟨B, 0, none⟩) Ls.length cp] w fun e w' => ∃ v, e = .returned v ∧ w'.ownsRow w.heap.size 35 6 v Ls.flatten.length (flat Ls.flatten) ∧ Below w.heap.size w w' := by
  obtain ⟨i0, hi, hi1, hi2, hi3⟩ := info_course
  rw [tot_flatten]
  have HL := Lib.hid hL
  have HT := Lib.hid (tot_le Ls)
  obtain ⟨m, hmm⟩ : ∃ m, Ls.length = m := ⟨_, rfl⟩
  have HM := Lib.hid hmm
  rw [hmm] at hm ⊢
  clear hL hmm
  go_enter Try.func75, Try.ntmps75
  go_wp2
  go_loop [3, 11] (fun s i => ∃ k : Nat, k ≤ m ∧ i = .int .i64 k ∧ s = .int .i64 (tot (Ls.take k) : Nat)) (fun _ i => m - (intOf i).toNat)
  case atStart => exact ⟨0, by omega, rfl, rfl⟩
  case round =>
    obtain ⟨k, hk, rfl, rfl⟩ := hrel
    by_cases hlt : k < m
    · obtain ⟨x, hx⟩ := get_lt (show k < Ls.length by rw [HM.out]; exact hlt)
      obtain ⟨b, off, c, hc, _⟩ := HL.out k x hx
      have hs := tot_snoc hx
      have h3 := HT.out (k + 1)
      have HS := Lib.hid hs
      have hb0 : tot (Ls.take k) + x.length ≤ 1000 := by omega
      clear hs hx h3
      go_wp2
      go_round
      case rel => exact ⟨k + 1, by omega, by go_num, by rw [HS.out]; go_num⟩
      case measure => simp [intOf]; omega
    · obtain rfl : k = m := by omega
      have ht : Ls.take Ls.length = Ls := List.take_length
      rw [HM.out] at ht
      rw [ht]
      have HT2 := Lib.hid ht
      clear ht
      go_wp2_with (go_at_call 89; ((with_reducible refine (s_grow (tot Ls) _ h1 h2).mono ?_); rintro e w1 ⟨v1, rfl, hr1, hb1⟩))
      go_loopw [6, 27] (fun v i wr => ∃ j : Nat, j ≤ k ∧ i = .int .i64 j ∧ wr.ownsRow w.heap.size 35 6 v (tot (Ls.take j)) (flat (Ls.take j).flatten) ∧ Below w.heap.size w wr) (fun _ i _ => k - (intOf i).toNat)
      case atStart => exact ⟨0, by omega, rfl, hr1, hb1⟩
      case round =>
        obtain ⟨j, hj, rfl, hown, hbw⟩ := hrel
        by_cases hlj : j < k
        · obtain ⟨x, hx⟩ := get_lt (show j < Ls.length by rw [HM.out]; exact hlj)
          obtain ⟨b, off, c, hc, hrd⟩ := HL.out j x hx
          have hBl := World.block_lt_of_cell? w _ hc
          have hc2 := (hbw.cell (p := ⟨B, j, none⟩) hBl).trans hc
          have hs := tot_snoc hx
          have hf := flatten_snoc hx
          have h3 := HT.out (j + 1)
          have HS := Lib.hid hs
          have HF := Lib.hid hf
          have HX := Lib.hid (rd_flat (hrd.on hbw))
          have hb0 : tot (Ls.take j) + x.length ≤ 1000 := by omega
          obtain ⟨va, vc, rfl⟩ := ownsRow_slice hown
          have hsz := hbw.size
          have HOW := Lib.hid hown
          clear hs hx h3 hf hrd hc hBl hown
          go_wp2_with (at_builtin; refine wpList_append_own _ rfl _ _ 22 rfl w.heap.size 35 i0 _ 6 48 (by kernel_rfl) hi hi1 hi2 hi3 rfl (by omega) _ _ _ rfl HOW.out ⟨b, off, none⟩ x.length c (flat x) rfl (flat_length x) HX.out (flat_one _) (by unfold maxLen; omega) (by omega) hsz ?_; intro v3 w3 hown3 hgrow _)
          have hb3 := below_grown hbw hgrow (fun r hr => (HOW.out.lt r hr).1) hsz
          clear hgrow
          go_roundw
          case rel => exact ⟨j + 1, by omega, by go_num, by rw [HS.out, HF.out]; exact hown3, hb3⟩
          case measure => simp [intOf]; omega
        · obtain rfl : j = k := by omega
          rw [HT2.out] at hown
          obtain ⟨va, vc, rfl⟩ := ownsRow_slice hown
          go_wp2
          go_ret
          exact ⟨_, rfl, hown, hbw⟩
theorem blk2 {W : World} {g : Nat} {t : TypeId} {a b : Value} (h : Blk W g t #[a, b]) : W.cell? ⟨g, 0, none⟩ = some a ∧ W.cell? ⟨g, 1, none⟩ = some b ∧ W.frozen? ⟨g, 0, none⟩ = false ∧ W.frozen? ⟨g, 1, none⟩ = false :=
  ⟨h.cell 0, h.cell 1, h.frozen 0, h.frozen 1⟩
theorem blk6 {W : World} {g : Nat} {t : TypeId} {a b c d e f : Value} (h : Blk W g t #[a, b, c, d, e, f]) : W.cell? ⟨g, 0, none⟩ = some a ∧ W.cell? ⟨g, 1, none⟩ = some b ∧ W.cell? ⟨g, 2, none⟩ = some c ∧ W.cell? ⟨g, 3, none⟩ = some d ∧ W.cell? ⟨g, 4, none⟩ = some e ∧ W.cell? ⟨g, 5, none⟩ = some f :=
  ⟨h.cell 0, h.cell 1, h.cell 2, h.cell 3, h.cell 4, h.cell 5⟩
theorem rdK {w : World} {ab off : Nat} {l : List Course} {n : Nat} {x : Course} (h : Rd Course.cs 6 w (some ⟨ab, off, none⟩) l) (hx : l[n]? = some x) :
    w.cell? ⟨ab, off + n * 6, none⟩ = some (.int .i64 x.h) ∧ w.cell? ⟨ab, off + n * 6 + 1, none⟩ = some (.int .i64 x.o) ∧ w.cell? ⟨ab, off + n * 6 + 2, none⟩ = some (.int .i64 x.i) ∧
      w.cell? ⟨ab, off + n * 6 + 3, none⟩ = some (.int .i64 x.wt) ∧ w.cell? ⟨ab, off + n * 6 + 4, none⟩ = some (.int .i64 x.e) ∧ w.cell? ⟨ab, off + n * 6 + 5, none⟩ = some (.int .i64 x.n) := by
  obtain ⟨b, o, e, _, hc⟩ := h.get hx
  cases e
  exact ⟨hc 0 _ rfl, hc 1 _ rfl, hc 2 _ rfl, hc 3 _ rfl, hc 4 _ rfl, hc 5 _ rfl⟩

end Go.Proofs.Ythoemokkfijfeaa
