/- Stack: safe winds of turned and of shifted stacks. -/
import Derived.Test.YthoemokkfijfeaaSy
import Derived.Test.YthoemokkfijfeaaSu
namespace Go.Proofs.Ythoemokkfijfeaa
open Go.RowKit

theorem sums_turn (s : List Course) : hs (s.map turn) = hs s ∧ wts (s.map turn) = wts s ∧ es (s.map turn) = -ns s ∧ ns (s.map turn) = es s ∧ face (s.map turn) = face s ∧ push (s.map turn) = push s := by
  induction s with
  | nil => simp [hs, wts, es, ns, face, push]
  | cons x s ih =>
    obtain ⟨h1, h2, h3, h4, h5, h6⟩ := ih
    simp only [List.map_cons, hs, wts, es, ns, face, push, turn, h1, h2, h3, h4, h5, h6, Int.mul_neg]
    refine ⟨trivial, trivial, by omega, trivial, trivial, trivial⟩
theorem sums_shift (a b : Int) (s : List Course) : hs (s.map (shift a b)) = hs s ∧ wts (s.map (shift a b)) = wts s ∧ es (s.map (shift a b)) = es s + wts s * a ∧ ns (s.map (shift a b)) = ns s + wts s * b ∧ face (s.map (shift a b)) = face s ∧ push (s.map (shift a b)) = push s := by
  induction s with
  | nil => simp [hs, wts, es, ns, face, push]
  | cons x s ih =>
    obtain ⟨h1, h2, h3, h4, h5, h6⟩ := ih
    simp only [List.map_cons, hs, wts, es, ns, face, push, shift, h1, h2, h3, h4, h5, h6, Int.mul_add, Int.add_mul]
    refine ⟨trivial, trivial, by omega, by omega, trivial, trivial⟩

def next (side : Int) : Int := (side + 1) % 4
theorem closed_turn (x : Course) (s : List Course) (p side : Int) (h0 : 0 ≤ side) (h1 : side ≤ 3) : closedB (turn x) (s.map turn) p (next side) = closedB x s p side := by
  obtain ⟨_, e2, e3, e4, _, e6⟩ := sums_turn s
  have hE : armE (turn x) (s.map turn) p (next side) = -armN x s p side := by
    unfold armE armN
    rw [e2, e3, e6]
    rcases (by omega : side = 0 ∨ side = 1 ∨ side = 2 ∨ side = 3) with rfl | rfl | rfl | rfl <;> simp [next, mvE, mvN, turn, Int.neg_mul, Int.mul_neg] <;> omega
  have hN : armN (turn x) (s.map turn) p (next side) = armE x s p side := by
    unfold armE armN
    rw [e2, e4, e6]
    rcases (by omega : side = 0 ∨ side = 1 ∨ side = 2 ∨ side = 3) with rfl | rfl | rfl | rfl <;> simp [next, mvE, mvN, turn]
  unfold closedB
  rw [hE, hN, e2, Int.natAbs_neg, Nat.add_comm]
  rfl
theorem closed_shift (a b : Int) (x : Course) (s : List Course) (p side : Int) : closedB (shift a b x) (s.map (shift a b)) p side = closedB x s p side := by
  obtain ⟨_, e2, e3, e4, _, e6⟩ := sums_shift a b s
  have hE : armE (shift a b x) (s.map (shift a b)) p side = armE x s p side := by
    unfold armE
    rw [e2, e3, e6]
    simp only [shift, Int.mul_add]
    rw [show es s + wts s * a - (wts s * x.e + wts s * a) = es s - wts s * x.e by omega]
  have hN : armN (shift a b x) (s.map (shift a b)) p side = armN x s p side := by
    unfold armN
    rw [e2, e4, e6]
    simp only [shift, Int.mul_add]
    rw [show ns s + wts s * b - (wts s * x.n + wts s * b) = ns s - wts s * x.n by omega]
  unfold closedB
  rw [hE, hN, e2]
  rfl

theorem tight_map {f : Course → Course} {l : List Course} {side side' : Int} (h : ∀ (x : Course) (s : List Course) (p : Nat), closedB (f x) (s.map f) p side' = closedB x s p side) (p : Nat) : tight (l.map f) side' p = tight l side p := by
  rw [Bool.eq_iff_iff, tight_iff, tight_iff]
  rw [List.length_map]
  have key : ∀ j, j < l.length → closedB (bedC (l.map f) j) ((l.map f).drop j) p side' = closedB (bedC l j) (l.drop j) p side := fun j hj => by
    obtain ⟨x, hx⟩ := get_lt hj
    rw [bed_at hx, bed_at (show (l.map f)[j]? = some (f x) by rw [List.getElem?_map, hx]; rfl), ← List.map_drop]
    exact h x (l.drop j) p
  constructor
  · intro h j hj; rw [← key j hj]; exact h j hj
  · intro h j hj; rw [key j hj]; exact h j hj
theorem safeI_map {f : Course → Course} {l : List Course} {side side' : Int} (h : ∀ (x : Course) (s : List Course) (p : Nat), closedB (f x) (s.map f) p side' = closedB x s p side) : safeI (l.map f) side' = safeI l side := by
  unfold safeI
  rw [tight_map h, show tight (l.map f) side' = tight l side from funext (tight_map h)]

theorem got_val {W : World} {base : Nat} {v : Value} {l : List Course} (h : GotS 0 W base v l) : OwnS W base v l := by unfold GotS at h; rw [if_pos rfl] at h; exact h
theorem turned_val {W : World} {base : Nat} {v : Value} {l L : List Course} (hv : validC l = true) (h : if validC l then OwnS W base v L else v = .slice none 0 0) : OwnS W base v L := by rw [hv, if_pos rfl] at h; exact h
theorem valid_turn {l : List Course} (hv : validC l = true) : validC (l.map turn) = true := by
  obtain ⟨h1, h2, h3⟩ := valid_all hv
  have := turnN_sound (k := 1) h1
  simp only [turnN] at this
  unfold validC
  rw [this, Bool.and_true, wn_iff, List.length_map]; omega
theorem windy_val {l : List Course} (hv : validC l = true) {side : Int} (h0 : 0 ≤ side) (h1 : side ≤ 3) : windyE l 0 0 side = 0 := by
  obtain ⟨_, h2, h3⟩ := valid_all hv
  unfold windyE
  rw [hv]
  have a1 : wn 0 0 ((l.length : Int) - 1) = true := by rw [wn_iff]; omega
  have a3 : wn side 0 3 = true := by rw [wn_iff]; omega
  simp [a1, a3]
  decide
theorem safeR_map {f : Course → Course} {l : List Course} {side side' : Int} (h : ∀ (x : Course) (s : List Course) (p : Nat), closedB (f x) (s.map f) p side' = closedB x s p side) (hv : validC l = true) (hv' : validC (l.map f) = true) (h0 : 0 ≤ side) (h1 : side ≤ 3) (h0' : 0 ≤ side') (h1' : side' ≤ 3) : safeR (l.map f) side' = safeR l side := by
  unfold safeR
  rw [if_pos (windy_val hv h0 h1), if_pos (windy_val hv' h0' h1'), safeI_map h]

set_option maxHeartbeats 2000000 in
set_option maxRecDepth 20000 in
theorem l_turns (A : Option Addr) (l : List Course) (c : Nat) (side n0 n1 : Int) (w : World) (hR : Rd Course.cs 6 w A l) :
    Calls Try.prog 13 #[.slice A l.length c, .int .i64 side, .agg #[.int .i64 n0, .int .i64 n1]] w fun e w' => e = .returned (.bool true) ∧ Below w.heap.size w w' := by
  by_cases h : l.length ≤ 8
  · rcases (by omega : side < 0 ∨ 3 < side ∨ (0 ≤ side ∧ side ≤ 3)) with hs | hs | ⟨hs0, hs1⟩
    · go_enter Try.func13, Try.ntmps13
      go_wp2_with (go_at_call 14; refine (s_awake _).mono ?_; rintro e w1 ⟨rfl, hb⟩)
      go_ret
      exact ⟨rfl, below_tr (below_alloc _ _) hb⟩
    · go_enter Try.func13, Try.ntmps13
      go_wp2_with (go_at_call 14; refine (s_awake _).mono ?_; rintro e w1 ⟨rfl, hb⟩)
      go_ret
      exact ⟨rfl, below_tr (below_alloc _ _) hb⟩
    · have hl2 : l.length ≤ 100000 := by omega
      have H1 := Lib.hid (fun W (h : Below w.heap.size w W) => s_safe A l c side W hl2 (hR.on h))
      have H2 := Lib.hid (fun W (h : Below w.heap.size w W) => s_turned A l c 1 W hl2 (hR.on h))
      have H4 := Lib.hid (fun W (h : Below w.heap.size w W) => s_shifted A l c n0 n1 W hl2 (hR.on h))
      have b1 : bits .and .i64 (0 + 1) 3 = 1 := by decide
      have b2 : bits .and .i64 (1 + 1) 3 = 2 := by decide
      have b3 : bits .and .i64 (2 + 1) 3 = 3 := by decide
      have b4 : bits .and .i64 (3 + 1) 3 = 0 := by decide
      cases hv : validC l
      · have hw : safeR l side = (0, 1) := by simp [safeR, windyE, hv]
        have ht : turnedE l = 1 := by simp [turnedE, hv]
        rw [hw] at H1
        rw [ht] at H2
        clear hv hw ht H4
        go_enter Try.func13, Try.ntmps13
        go_wp2_with (first
          | (go_at_call 50; refine (H1.out _ (below_alloc _ _)).mono ?_; rintro e w1 ⟨rfl, c1⟩; have b1 : Below w.heap.size w w1 := below_tr (below_alloc w (.cells #[.int .i64 n0, .int .i64 n1] 59)) c1; have d1 : Blk w1 w.heap.size 59 #[.int .i64 n0, .int .i64 n1] := (Blk.new w _ _).below c1 (by simp); have q10 : w1.cell? ⟨w.heap.size, 0, none⟩ = some (.int .i64 n0) := d1.cell 0; have q11 : w1.cell? ⟨w.heap.size, 1, none⟩ = some (.int .i64 n1) := d1.cell 1; have y1 : w.heap.size < w1.heap.size := d1.lt)
          | (go_at_call 25; refine (H2.out _ b1).mono ?_; rintro e w2 ⟨v2, rfl, g2, c2⟩; have b2 : Below w.heap.size w w2 := below_tr b1 c2; have d2 : Blk w2 w.heap.size 59 #[.int .i64 n0, .int .i64 n1] := d1.below c2 d1.lt; have q20 : w2.cell? ⟨w.heap.size, 0, none⟩ = some (.int .i64 n0) := d2.cell 0; have q21 : w2.cell? ⟨w.heap.size, 1, none⟩ = some (.int .i64 n1) := d2.cell 1; have y2 : w.heap.size < w2.heap.size := d2.lt)
          | (go_at_call 14; refine (s_awake _).mono ?_; rintro e w9 ⟨rfl, c9⟩))
        go_ret
        exact ⟨rfl, below_tr b2 c9⟩
      · have hq : turnN (quart 1) l = l.map turn := rfl
        have hvt := valid_turn hv
        have hsafe : ∀ side', side' = next side → safeR (l.map turn) side' = safeR l side := fun side' e => by
          subst e
          exact safeR_map (fun x s p => closed_turn x s p side hs0 hs1) hv hvt hs0 hs1 (by unfold next; omega) (by unfold next; omega)
        have ht : turnedE l = 0 := by simp [turnedE, hv]
        have HV := Lib.hid hv
        rw [ht, hq] at H2
        have hE : shiftE l n0 n1 ≠ 0 ∨ (shiftE l n0 n1 = 0 ∧ validC (l.map (shift n0 n1)) = true) := by
          unfold shiftE; rw [hv]
          cases (wn n0 (-10000) 10000 && wn n1 (-10000) 10000) <;> cases validC (l.map (shift n0 n1)) <;> simp
        have HT := Lib.hid (fun side' (e : side' = next side) a m W (h : Rd Course.cs 6 W a (l.map turn)) => hsafe side' e ▸ s_safe a (l.map turn) m side' W (by rw [List.length_map]; omega) h)
        simp only [List.length_map] at HT
        rcases hE with hE | ⟨hE, hvs⟩
        · generalize shiftE l n0 n1 = se at *
          clear hq hvt hsafe ht hv
          rcases (by omega : side = 0 ∨ side = 1 ∨ side = 2 ∨ side = 3) with rfl | rfl | rfl | rfl
          all_goals
            generalize safeR l _ = sr at *
            go_enter Try.func13, Try.ntmps13
            go_wp2_with (first
              | (go_at_call 50; refine (HT.out _ (by decide) a2 m2 w2 r2).mono ?_; rintro e w3 ⟨rfl, c3⟩; have b3 : Below w.heap.size w w3 := below_tr b2 c3; have d3 : Blk w3 w.heap.size 59 #[.int .i64 n0, .int .i64 n1] := d2.below c3 d2.lt; have q30 : w3.cell? ⟨w.heap.size, 0, none⟩ = some (.int .i64 n0) := d3.cell 0; have q31 : w3.cell? ⟨w.heap.size, 1, none⟩ = some (.int .i64 n1) := d3.cell 1; have y3 : w.heap.size < w3.heap.size := d3.lt)
              | (go_at_call 50; refine (H1.out _ (below_alloc _ _)).mono ?_; rintro e w1 ⟨rfl, c1⟩; have b1 : Below w.heap.size w w1 := below_tr (below_alloc w (.cells #[.int .i64 n0, .int .i64 n1] 59)) c1; have d1 : Blk w1 w.heap.size 59 #[.int .i64 n0, .int .i64 n1] := (Blk.new w _ _).below c1 (by simp); have q10 : w1.cell? ⟨w.heap.size, 0, none⟩ = some (.int .i64 n0) := d1.cell 0; have q11 : w1.cell? ⟨w.heap.size, 1, none⟩ = some (.int .i64 n1) := d1.cell 1; have y1 : w.heap.size < w1.heap.size := d1.lt)
              | (go_at_call 25; refine (H2.out _ b1).mono ?_; rintro e w2 ⟨v2, rfl, g2, c2⟩; have g2 := turned_val HV.out g2; obtain ⟨a2, m2, rfl, r2⟩ := g2.rd; have b2 : Below w.heap.size w w2 := below_tr b1 c2; have d2 : Blk w2 w.heap.size 59 #[.int .i64 n0, .int .i64 n1] := d1.below c2 d1.lt; have q20 : w2.cell? ⟨w.heap.size, 0, none⟩ = some (.int .i64 n0) := d2.cell 0; have q21 : w2.cell? ⟨w.heap.size, 1, none⟩ = some (.int .i64 n1) := d2.cell 1; have y2 : w.heap.size < w2.heap.size := d2.lt)
              | (go_at_call 28; refine (H4.out _ b3).mono ?_; rintro e w4 ⟨v4, rfl, g4, c4⟩; obtain ⟨a4, m4, rfl, _⟩ := got_rd g4; have b4 : Below w.heap.size w w4 := below_tr b3 c4)
              | (go_at_call 14; refine (s_awake _).mono ?_; rintro e w9 ⟨rfl, c9⟩))
            go_ret
            exact ⟨rfl, below_tr b4 c9⟩
        · have hss : safeR (l.map (shift n0 n1)) side = safeR l side := safeR_map (fun x s p => closed_shift n0 n1 x s p side) hv hvs hs0 hs1 hs0 hs1
          have HS := Lib.hid (fun a m W (h : Rd Course.cs 6 W a (l.map (shift n0 n1))) => hss ▸ s_safe a (l.map (shift n0 n1)) m side W (by rw [List.length_map]; omega) h)
          simp only [List.length_map] at HS
          rw [hE] at H4
          clear hq hvt hsafe ht hv hE hvs hss
          rcases (by omega : side = 0 ∨ side = 1 ∨ side = 2 ∨ side = 3) with rfl | rfl | rfl | rfl
          all_goals
            generalize safeR l _ = sr at *
            go_enter Try.func13, Try.ntmps13
            go_wp2_with (first
              | (go_at_call 50; refine (HS.out a4 m4 w4 r4).mono ?_; rintro e w5 ⟨rfl, c5⟩; have b5 : Below w.heap.size w w5 := below_tr b4 c5)
              | (go_at_call 50; refine (HT.out _ (by decide) a2 m2 w2 r2).mono ?_; rintro e w3 ⟨rfl, c3⟩; have b3 : Below w.heap.size w w3 := below_tr b2 c3; have d3 : Blk w3 w.heap.size 59 #[.int .i64 n0, .int .i64 n1] := d2.below c3 d2.lt; have q30 : w3.cell? ⟨w.heap.size, 0, none⟩ = some (.int .i64 n0) := d3.cell 0; have q31 : w3.cell? ⟨w.heap.size, 1, none⟩ = some (.int .i64 n1) := d3.cell 1; have y3 : w.heap.size < w3.heap.size := d3.lt)
              | (go_at_call 50; refine (H1.out _ (below_alloc _ _)).mono ?_; rintro e w1 ⟨rfl, c1⟩; have b1 : Below w.heap.size w w1 := below_tr (below_alloc w (.cells #[.int .i64 n0, .int .i64 n1] 59)) c1; have d1 : Blk w1 w.heap.size 59 #[.int .i64 n0, .int .i64 n1] := (Blk.new w _ _).below c1 (by simp); have q10 : w1.cell? ⟨w.heap.size, 0, none⟩ = some (.int .i64 n0) := d1.cell 0; have q11 : w1.cell? ⟨w.heap.size, 1, none⟩ = some (.int .i64 n1) := d1.cell 1; have y1 : w.heap.size < w1.heap.size := d1.lt)
              | (go_at_call 25; refine (H2.out _ b1).mono ?_; rintro e w2 ⟨v2, rfl, g2, c2⟩; have g2 := turned_val HV.out g2; obtain ⟨a2, m2, rfl, r2⟩ := g2.rd; have b2 : Below w.heap.size w w2 := below_tr b1 c2; have d2 : Blk w2 w.heap.size 59 #[.int .i64 n0, .int .i64 n1] := d1.below c2 d1.lt; have q20 : w2.cell? ⟨w.heap.size, 0, none⟩ = some (.int .i64 n0) := d2.cell 0; have q21 : w2.cell? ⟨w.heap.size, 1, none⟩ = some (.int .i64 n1) := d2.cell 1; have y2 : w.heap.size < w2.heap.size := d2.lt)
              | (go_at_call 28; refine (H4.out _ b3).mono ?_; rintro e w4 ⟨v4, rfl, g4, c4⟩; obtain ⟨a4, m4, rfl, r4⟩ := (got_val g4).rd; have b4 : Below w.heap.size w w4 := below_tr b3 c4; have d4 : Blk w4 w.heap.size 59 #[.int .i64 n0, .int .i64 n1] := d3.below c4 d3.lt; have q40 : w4.cell? ⟨w.heap.size, 0, none⟩ = some (.int .i64 n0) := d4.cell 0; have q41 : w4.cell? ⟨w.heap.size, 1, none⟩ = some (.int .i64 n1) := d4.cell 1; have y4 : w.heap.size < w4.heap.size := d4.lt)
              | (go_at_call 14; refine (s_awake _).mono ?_; rintro e w9 ⟨rfl, c9⟩))
            go_ret
            exact ⟨rfl, below_tr b5 c9⟩
  · go_enter Try.func13, Try.ntmps13
    go_wp2_with (go_at_call 14; refine (s_awake _).mono ?_; rintro e w1 ⟨rfl, hb⟩)
    go_ret
    exact ⟨rfl, below_tr (below_alloc _ _) hb⟩
end Go.Proofs.Ythoemokkfijfeaa
