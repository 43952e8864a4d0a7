/- Stack: the statement on holding beds. -/
import Derived.Test.YthoemokkfijfeaaSp
namespace Go.Proofs.Ythoemokkfijfeaa
open Go.RowKit

theorem closed_holds {x : Course} {s : List Course} {p side : Int} (hx : CB x) (h : closedB x s p side = true) : holdsB x s p side = true := by
  obtain ⟨d1, d2, d3, d4, d5, d6, d7, d8, d9, d10, d11⟩ := hx
  unfold closedB at h
  unfold holdsB
  rw [decide_eq_true_eq] at h
  obtain ⟨o, ho⟩ := Int.eq_ofNat_of_zero_le (show 0 ≤ x.o by omega)
  obtain ⟨i, hi⟩ := Int.eq_ofNat_of_zero_le (show 0 ≤ x.i by omega)
  rw [ho, hi] at h
  rw [ho]
  have hio : i < o := by omega
  have e1 : (3 * (o : Int)).toNat = 3 * o := by omega
  have e2 : ((o : Int) * o + (i : Int) * i).toNat = o * o + i * i := by rw [← Int.natCast_mul, ← Int.natCast_mul, ← Int.natCast_add]; exact Int.toNat_natCast _
  rw [e1, e2] at h
  rw [Int.toNat_natCast]
  generalize (armE x s p side).natAbs = E at *
  generalize (armN x s p side).natAbs = N at *
  generalize (wts s * 9810000).toNat = D at *
  have hii : i * i ≤ o * o := Nat.mul_le_mul (by omega) (by omega)
  have hD : (o * o + i * i) * D ≤ (o * o + o * o) * D := Nat.mul_le_mul (by omega) (Nat.le_refl _)
  have hT : (o * o + o * o) * D = o * (o * D) + o * (o * D) := by rw [Nat.add_mul, Nat.mul_assoc]
  have key : ∀ X : Nat, X ≤ E + N → X ≤ o * D := fun X hX => by
    rcases Nat.lt_or_ge (o * D) X with hlt | hge
    · exfalso
      have h1 : (o * D + 1) * (3 * o) ≤ (E + N) * (3 * o) := Nat.mul_le_mul (by omega) (Nat.le_refl _)
      have h2 : (o * D + 1) * (3 * o) = 3 * (o * (o * D)) + 3 * o := by rw [Nat.add_mul, Nat.mul_comm (o * D), Nat.mul_assoc, Nat.one_mul]
      omega
    · exact hge
  simp [key E (by omega), key N (by omega)]

theorem holds_of_closed {l : List Course} {bed p side : Int} (h : (closedR l bed p side).1 = true) : (holdsR l bed p side).1 = true := by
  unfold closedR at h
  unfold holdsR
  by_cases h0 : windyE l bed p side = 0
  · rw [if_pos h0] at h ⊢
    obtain ⟨n, rfl, hn, hv, hp0, hp1, hs0, hs1⟩ := windy_zero h0
    exact closed_holds (lost_hyp hv hp0 hp1 hn).1 h
  · rw [if_neg h0] at h; cases h
theorem stands_of_open {l : List Course} {p side : Int} (h0 : windyE l 0 p side = 0) (h : (openR l p side).length = 0) : standsR l p side = true := by
  unfold openR at h
  unfold standsR
  rw [if_pos h0] at h ⊢
  obtain ⟨hv, hp0, hp1, hs0, hs1⟩ := windy0 l h0
  rw [List.length_reverse] at h
  have h1 := List.eq_nil_of_length_eq_zero h
  have h2 : lostsL holdsB l p side = [] := by
    unfold lostsL lostL at h1 ⊢
    rw [List.filter_eq_nil_iff] at h1 ⊢
    intro a ha
    have hal : a < l.length := by simpa using ha
    have := h1 a ha
    simp only [Bool.not_eq_true, Bool.not_eq_false'] at this ⊢
    exact closed_holds (lost_hyp hv hp0 hp1 hal).1 this
  rw [h2]; rfl
theorem closedR_2 (l : List Course) (bed p side : Int) : (closedR l bed p side).2 = windyE l bed p side := by
  unfold closedR; split <;> simp [*]
theorem holdsR_2 (l : List Course) (bed p side : Int) : (holdsR l bed p side).2 = windyE l bed p side := by
  unfold holdsR; split <;> simp [*]

set_option maxHeartbeats 2000000 in
set_option maxRecDepth 20000 in
theorem l_holds (A : Option Addr) (l : List Course) (c : Nat) (n0 n1 n2 : Int) (w : World) (hl : l.length ≤ maxLen) (hR : Rd Course.cs 6 w A l) :
    Calls Try.prog 9 #[.slice A l.length c, .agg #[.int .i64 n0, .int .i64 n1, .int .i64 n2]] w fun e w' => e = .returned (.bool true) ∧ Below w.heap.size w w' := by
  unfold maxLen at hl
  by_cases h : l.length ≤ 60
  · have hl2 : l.length ≤ 100000 := by omega
    have H5 := Lib.hid (fun W (h : Below w.heap.size w W) => s_closedF A l c n0 n1 n2 W hl2 (hR.on h))
    have H7 := Lib.hid (fun W (h : Below w.heap.size w W) => s_holdsF A l c n0 n1 n2 W hl2 (hR.on h))
    have HO := Lib.hid (fun W (h : Below w.heap.size w W) => s_open A l c n1 n2 W hl2 (hR.on h))
    have HS := Lib.hid (fun W (h : Below w.heap.size w W) => s_stands A l c n1 n2 W hl2 (hR.on h))
    rw [closedR_2] at H5
    rw [holdsR_2] at H7
    have hch : (closedR l n0 n1 n2).1 = true → (holdsR l n0 n1 n2).1 = true := holds_of_closed
    have hso : windyE l 0 n1 n2 = 0 → (openR l n1 n2).length = 0 → standsR l n1 n2 = true := stands_of_open
    generalize (closedR l n0 n1 n2).1 = bc at *
    generalize (holdsR l n0 n1 n2).1 = bh at *
    generalize windyE l n0 n1 n2 = e0 at *
    generalize windyE l 0 n1 n2 = e1 at *
    generalize standsR l n1 n2 = bs at *
    generalize openR l n1 n2 = op at *
    rcases Nat.eq_zero_or_pos op.length with hop | hop
    all_goals
      by_cases he : e1 = 0
      all_goals cases bc
      all_goals cases bh
    all_goals try (exfalso; exact Bool.noConfusion (hch rfl))
    all_goals
      go_enter Try.func9, Try.ntmps9
      go_wp2_with (first
        | (go_at_call 33; refine (H5.out _ (below_alloc _ _)).mono ?_; rintro e w1 ⟨rfl, c1⟩; have b1 : Below w.heap.size w w1 := below_tr (below_alloc w (.cells #[.int .i64 n0, .int .i64 n1, .int .i64 n2] 40)) c1; have d1 : Blk w1 w.heap.size 40 #[.int .i64 n0, .int .i64 n1, .int .i64 n2] := (Blk.new w _ _).below c1 (by simp); have q10 : w1.cell? ⟨w.heap.size, 0, none⟩ = some (.int .i64 n0) := d1.cell 0; have q11 : w1.cell? ⟨w.heap.size, 1, none⟩ = some (.int .i64 n1) := d1.cell 1; have q12 : w1.cell? ⟨w.heap.size, 2, none⟩ = some (.int .i64 n2) := d1.cell 2; have y1 : w.heap.size < w1.heap.size := d1.lt)
        | (go_at_call 35; refine (H7.out _ (by exact b1)).mono ?_; rintro e w2 ⟨rfl, c2⟩; have b2 : Below w.heap.size w w2 := below_tr b1 c2; have d2 : Blk w2 w.heap.size 40 #[.int .i64 n0, .int .i64 n1, .int .i64 n2] := d1.below c2 (by first | omega | (simp; omega) | simp); have q20 : w2.cell? ⟨w.heap.size, 0, none⟩ = some (.int .i64 n0) := d2.cell 0; have q21 : w2.cell? ⟨w.heap.size, 1, none⟩ = some (.int .i64 n1) := d2.cell 1; have q22 : w2.cell? ⟨w.heap.size, 2, none⟩ = some (.int .i64 n2) := d2.cell 2; have y2 : w.heap.size < w2.heap.size := d2.lt)
        | (go_at_call 43; refine (HO.out _ (by exact b2)).mono ?_; rintro e w3 ⟨v, rfl, hr, c3⟩; obtain ⟨ad, cp, rfl⟩ := ownsRow_slice hr; have b3 : Below w.heap.size w w3 := below_tr b2 c3; have d3 : Blk w3 w.heap.size 40 #[.int .i64 n0, .int .i64 n1, .int .i64 n2] := d2.below c3 (by first | omega | (simp; omega) | simp); have q30 : w3.cell? ⟨w.heap.size, 0, none⟩ = some (.int .i64 n0) := d3.cell 0; have q31 : w3.cell? ⟨w.heap.size, 1, none⟩ = some (.int .i64 n1) := d3.cell 1; have q32 : w3.cell? ⟨w.heap.size, 2, none⟩ = some (.int .i64 n2) := d3.cell 2; have y3 : w.heap.size < w3.heap.size := d3.lt)
        | (go_at_call 44; refine (HS.out _ (by exact b3)).mono ?_; rintro e w4 ⟨rfl, c4⟩; have b4 : Below w.heap.size w w4 := below_tr b3 c4; have d4 : Blk w4 w.heap.size 40 #[.int .i64 n0, .int .i64 n1, .int .i64 n2] := d3.below c4 (by first | omega | (simp; omega) | simp); have q40 : w4.cell? ⟨w.heap.size, 0, none⟩ = some (.int .i64 n0) := d4.cell 0; have q41 : w4.cell? ⟨w.heap.size, 1, none⟩ = some (.int .i64 n1) := d4.cell 1; have q42 : w4.cell? ⟨w.heap.size, 2, none⟩ = some (.int .i64 n2) := d4.cell 2; have y4 : w.heap.size < w4.heap.size := d4.lt)
        | (go_at_call 14; refine (s_awake _).mono ?_; rintro e w9 ⟨rfl, c9⟩))
      go_ret
      exact ⟨rfl, below_tr b4 c9⟩
  · go_enter Try.func9, Try.ntmps9
    go_wp2_with (go_at_call 14; refine (s_awake _).mono ?_; rintro e w1 ⟨rfl, hb⟩)
    go_ret
    exact ⟨rfl, below_tr (below_alloc _ _) hb⟩
end Go.Proofs.Ythoemokkfijfeaa
