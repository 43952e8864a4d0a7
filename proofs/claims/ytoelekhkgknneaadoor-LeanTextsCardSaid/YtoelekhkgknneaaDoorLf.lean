/- Lean: fractions compared, by the program. -/
import Derived.Test.YtoelekhkgknneaaDoorLc
import Derived.Test.YtoelekhkgknneaaDoorLw
import Derived.Deep.DeepCutAuto
namespace Go.Proofs.YtoelekhkgknneaaDoor
open Go.RowKit

structure I64 (n : Int) : Prop where
  lo : -9223372036854775808 ≤ n
  hi : n ≤ 9223372036854775807
theorem i64_of {n : Int} (h : (Lit.int .i64 n).wf = true) : I64 n := by
  have h1 : (decide (IntKind.i64.min ≤ n) && decide (n ≤ IntKind.i64.max)) = true := h
  rw [show IntKind.i64.min = -9223372036854775808 from rfl, show IntKind.i64.max = 9223372036854775807 from rfl, Bool.and_eq_true, decide_eq_true_eq, decide_eq_true_eq] at h1
  exact ⟨h1.1, h1.2⟩
theorem p_size (n : Int) (w : World) (h : I64 n) :
    Calls Tryd.prog 160 #[.int .i64 n] w fun e w' => e = .returned (.int .u64 (n.natAbs : Nat)) ∧ w = w' := by
  obtain ⟨h1, h2⟩ := h
  by_cases hn : n < 0
  · have e1 : IntKind.u64.wrap (-(IntKind.u64.wrap n)) = (n.natAbs : Int) := by rw [IntKind.wrap_u64, IntKind.wrap_u64]; omega
    go_enter Tryd.func160, Tryd.ntmps160
    go_wp2
    go_ret
    exact ⟨rfl, rfl⟩
  · have e1 : IntKind.u64.wrap n = (n.natAbs : Int) := by rw [IntKind.wrap_u64]; omega
    go_enter Tryd.func160, Tryd.ntmps160
    go_wp2
    go_ret
    exact ⟨rfl, rfl⟩
theorem wide_five (v u : Nat) : (hi64 v < hi64 u ∧ v < u) ∨ (hi64 v = hi64 u ∧ lo64 v < lo64 u ∧ v < u) ∨ (hi64 v = hi64 u ∧ lo64 v = lo64 u ∧ v = u) ∨ (hi64 v = hi64 u ∧ lo64 u < lo64 v ∧ u < v) ∨ (hi64 u < hi64 v ∧ u < v) := by
  unfold hi64 lo64 Q64; omega
theorem blk_second (w : World) (o : Obj) (t : TypeId) (cs : Array Value) : Blk ((w.alloc o).alloc (.cells cs t)) (w.heap.size + 1) t cs := by
  have := Blk.new (w.alloc o) t cs
  rwa [World.size_alloc] at this
def mx (d : Int) : Int := if 1 < d then d else 1
theorem mx_pos (d : Int) : 1 ≤ mx d := by unfold mx; split <;> omega
def cmpI (x y : Int) : Int := if x < y then -1 else if x = y then 0 else 1
/-- fractions compared -/
def cmpR (n d n' d' : Int) : Int := cmpI (n * mx d') (n' * mx d)
theorem abs_mul {n d : Int} (hd : 1 ≤ d) : ((n.natAbs * d.toNat : Nat) : Int) = if n < 0 then -(n * d) else n * d := by
  rw [Int.natCast_mul, Int.toNat_of_nonneg (by omega)]
  split
  · rw [Int.ofNat_natAbs_of_nonpos (by omega), Int.neg_mul]
  · rw [Int.natAbs_of_nonneg (by omega)]

theorem blk2 {W : World} {g : Nat} {t : TypeId} {a b : Value} (h : Blk W g t #[a, b]) : W.cell? ⟨g, 0, none⟩ = some a ∧ W.cell? ⟨g, 1, none⟩ = some b ∧ W.frozen? ⟨g, 0, none⟩ = false ∧ W.frozen? ⟨g, 1, none⟩ = false :=
  ⟨h.cell 0, h.cell 1, h.frozen 0, h.frozen 1⟩
theorem p_sizeQ (n : Int) (w : World) (k : Nat) (h : I64 n) : Calls Tryd.prog 160 #[.int .i64 n] (w.drewN k) fun e w' => e = .returned (.int .u64 (n.natAbs : Nat)) ∧ ∃ m, w' = w.drewN m :=
  (p_size n _ h).mono fun _ _ ⟨he, hw⟩ => ⟨he, k, hw.symm⟩
theorem c_mul64Q (x y : Nat) (w : World) (k : Nat) (hx : x < Q64) (hy : y < Q64) :
    Calls Tryd.prog 159 #[.int .u64 x, .int .u64 y] (w.drewN k) fun e w' => e = .returned (.tuple #[.int .u64 (hi64 (x * y) : Nat), .int .u64 (lo64 (x * y) : Nat)]) ∧ ∃ m, w' = w.drewN m :=
  (c_mul64 x y hx hy _).mono fun _ _ ⟨he, hw⟩ => ⟨he, k, hw.symm⟩

set_option maxHeartbeats 8000000 in
set_option maxRecDepth 20000 in
theorem p_compare (n d n' d' : Int) (w : World) (hn : I64 n) (hd : I64 d) (hn' : I64 n') (hd' : I64 d') :
    Calls Tryd.prog 140 #[.agg #[.int .i64 n, .int .i64 d], .agg #[.int .i64 n', .int .i64 d']] w fun e w' => e = .returned (.int .i64 (cmpR n d n' d')) ∧ Below w.heap.size w w' := by
  have S1 := Lib.hid (fun W => p_size n W hn)
  have S2 := Lib.hid (fun W => p_size n' W hn')
  obtain ⟨hn1, hn2⟩ := hn
  obtain ⟨hd1, hd2⟩ := hd
  obtain ⟨hn1', hn2'⟩ := hn'
  obtain ⟨hd1', hd2'⟩ := hd'
  go_enter Tryd.func140, Tryd.ntmps140
  go_upto_region 1 with (fail)
  have A0 := (Blk.new w 93 #[.int .i64 n, .int .i64 d]).alloc (.cells #[.int .i64 n', .int .i64 d'] 93)
  have A1 := Blk.new (w.alloc (.cells #[.int .i64 n, .int .i64 d] 93)) 93 #[.int .i64 n', .int .i64 d']
  rw [World.size_alloc] at A1
  have bA := below_tr (below_alloc w (.cells #[.int .i64 n, .int .i64 d] 93)) (below_alloc _ (.cells #[.int .i64 n', .int .i64 d'] 93))
  go_cut [] (fun wx => Blk wx w.heap.size 93 #[.int .i64 n, .int .i64 (mx d)] ∧ Blk wx (w.heap.size + 1) 93 #[.int .i64 n', .int .i64 (mx d')] ∧ Below w.heap.size w wx)
  case first =>
    have m1 : ∀ (x : Int), 1 < x → mx x = x := fun _ h => by unfold mx; rw [if_pos h]
    have m2 : ∀ (x : Int), ¬ 1 < x → mx x = 1 := fun _ h => by unfold mx; rw [if_neg h]
    have M1 := Lib.hid m1
    have M2 := Lib.hid m2
    clear m1 m2
    by_cases c1 : 1 < d
    · have k1 := Lib.hid (M1.out _ c1)
      have x1 : max (1 : Int) d = d := by omega
      by_cases c2 : 1 < d'
      · have k2 := Lib.hid (M1.out _ c2)
        have x2 : max (1 : Int) d' = d' := by omega
        go_region
        all_goals
          go_wp2
          go_meet
        all_goals exact ⟨by rw [k1.out]; exact Blk.drew (Blk.alloc (Blk.new w _ _) _), by rw [k2.out]; exact Blk.drew (blk_second w _ _ _), below_draw (below_tr (below_alloc _ _) (below_alloc _ _))⟩
      · have k2 := Lib.hid (M2.out _ c2)
        have x2 : max (1 : Int) d' = 1 := by omega
        have c3 : d' ≤ 1 := by omega
        go_region
        all_goals
          go_wp2
          go_meet
        all_goals exact ⟨by rw [k1.out]; exact Blk.drew (Blk.alloc (Blk.new w _ _) _), by rw [k2.out]; exact Blk.drew (blk_second w _ _ _), below_draw (below_tr (below_alloc _ _) (below_alloc _ _))⟩
    · have k1 := Lib.hid (M2.out _ c1)
      have x1 : max (1 : Int) d = 1 := by omega
      have c4 : d ≤ 1 := by omega
      by_cases c2 : 1 < d'
      · have k2 := Lib.hid (M1.out _ c2)
        have x2 : max (1 : Int) d' = d' := by omega
        go_region
        all_goals
          go_wp2
          go_meet
        all_goals exact ⟨by rw [k1.out]; exact Blk.drew (Blk.alloc (Blk.new w _ _) _), by rw [k2.out]; exact Blk.drew (blk_second w _ _ _), below_draw (below_tr (below_alloc _ _) (below_alloc _ _))⟩
      · have k2 := Lib.hid (M2.out _ c2)
        have x2 : max (1 : Int) d' = 1 := by omega
        have c3 : d' ≤ 1 := by omega
        go_region
        all_goals
          go_wp2
          go_meet
        all_goals exact ⟨by rw [k1.out]; exact Blk.drew (Blk.alloc (Blk.new w _ _) _), by rw [k2.out]; exact Blk.drew (blk_second w _ _ _), below_draw (below_tr (below_alloc _ _) (below_alloc _ _))⟩
  case rest =>
    obtain ⟨B0, B1, bx⟩ := hcut
    clear A0 A1 bA
    obtain ⟨m, hm⟩ : ∃ m : Nat, mx d = m := ⟨(mx d).toNat, by have := mx_pos d; omega⟩
    obtain ⟨m', hm'⟩ : ∃ m : Nat, mx d' = m := ⟨(mx d').toNat, by have := mx_pos d'; omega⟩
    have q1 : (m : Int) ≤ 9223372036854775807 := by rw [← hm]; unfold mx; split <;> omega
    have q1' : (m' : Int) ≤ 9223372036854775807 := by rw [← hm']; unfold mx; split <;> omega
    have q0 : 1 ≤ (m : Int) := by rw [← hm]; exact mx_pos d
    have q0' : 1 ≤ (m' : Int) := by rw [← hm']; exact mx_pos d'
    have HR := Lib.hid (show cmpR n d n' d' = cmpI (n * (m' : Int)) (n' * (m : Int)) by unfold cmpR; rw [hm, hm'])
    rw [hm] at B0
    rw [hm'] at B1
    have c0 : wc.cell? ⟨w.heap.size, 0, none⟩ = some (.int .i64 n) := B0.cell 0
    have c1 : wc.cell? ⟨w.heap.size, 1, none⟩ = some (.int .i64 m) := B0.cell 1
    have c2 : wc.cell? ⟨w.heap.size + 1, 0, none⟩ = some (.int .i64 n') := B1.cell 0
    have c3 : wc.cell? ⟨w.heap.size + 1, 1, none⟩ = some (.int .i64 m') := B1.cell 1
    have e1 : IntKind.u64.wrap (m : Int) = m := wrap_u64 (by unfold Q64; omega)
    have e2 : IntKind.u64.wrap (m' : Int) = m' := wrap_u64 (by unfold Q64; omega)
    have g1 : n.natAbs < Q64 := by unfold Q64; omega
    have g2 : n'.natAbs < Q64 := by unfold Q64; omega
    have g3 : m < Q64 := by unfold Q64; omega
    have g4 : m' < Q64 := by unfold Q64; omega
    have hI : I64 n := ⟨hn1, hn2⟩
    have hI' : I64 n' := ⟨hn1', hn2'⟩
    clear hm hm' S1 S2
    by_cases s1 : n < 0
    · by_cases s2 : n' < 0
      · have hu : ((n.natAbs * m' : Nat) : Int) = -(n * m') := by have := abs_mul (n := n) q0'; rw [if_pos s1, Int.toNat_natCast] at this; exact this
        have hv : ((n'.natAbs * m : Nat) : Int) = -(n' * m) := by have := abs_mul (n := n') q0; rw [if_pos s2, Int.toNat_natCast] at this; exact this
        have HU := Lib.hid hu
        have HV := Lib.hid hv
        have HW := wide_five (n.natAbs * m') (n'.natAbs * m)
        clear hu hv
        rcases HW with ⟨h1, h2⟩ | ⟨h1, h2, h3⟩ | ⟨h1, h2, h3⟩ | ⟨h1, h2, h3⟩ | ⟨h1, h2⟩
        · have HX := Lib.hid (show cmpI (n * (m' : Int)) (n' * (m : Int)) = 1 by
            have x1 := HU.out
            have x2 := HV.out
            unfold cmpI
            rw [if_neg (by omega), if_neg (by omega)])
          clear h2
          go_wp2_with (fail)
          go_quiet ((first
            | (go_at_call 160; exact p_sizeQ _ _ _ (by assumption))
            | (go_at_call 159; exact c_mul64Q _ _ _ _ (by assumption) (by assumption))))
          go_wp2_with (fail)
          have b0 := B0.drewN nq
          have b1 := B1.drewN nq
          have by1 := below_drewN bx nq
          generalize wc.drewN nq = wd at b0 b1 by1 ⊢
          clear c0 c1 c2 c3 bx B0 B1
          obtain ⟨c0, c1, _, _⟩ := blk2 b0
          obtain ⟨c2, c3, _, _⟩ := blk2 b1
          go_quiet ((first
            | (go_at_call 160; exact p_sizeQ _ _ _ (by assumption))
            | (go_at_call 159; exact c_mul64Q _ _ _ _ (by assumption) (by assumption))))
          go_wp2
          go_ret
          exact ⟨ret_int (by rw [HR.out, HX.out]), below_drewN by1 _⟩
        · have HX := Lib.hid (show cmpI (n * (m' : Int)) (n' * (m : Int)) = 1 by
            have x1 := HU.out
            have x2 := HV.out
            unfold cmpI
            rw [if_neg (by omega), if_neg (by omega)])
          clear h3
          go_wp2_with (fail)
          go_quiet ((first
            | (go_at_call 160; exact p_sizeQ _ _ _ (by assumption))
            | (go_at_call 159; exact c_mul64Q _ _ _ _ (by assumption) (by assumption))))
          go_wp2_with (fail)
          have b0 := B0.drewN nq
          have b1 := B1.drewN nq
          have by1 := below_drewN bx nq
          generalize wc.drewN nq = wd at b0 b1 by1 ⊢
          clear c0 c1 c2 c3 bx B0 B1
          obtain ⟨c0, c1, _, _⟩ := blk2 b0
          obtain ⟨c2, c3, _, _⟩ := blk2 b1
          go_quiet ((first
            | (go_at_call 160; exact p_sizeQ _ _ _ (by assumption))
            | (go_at_call 159; exact c_mul64Q _ _ _ _ (by assumption) (by assumption))))
          go_wp2
          go_ret
          exact ⟨ret_int (by rw [HR.out, HX.out]), below_drewN by1 _⟩
        · have HX := Lib.hid (show cmpI (n * (m' : Int)) (n' * (m : Int)) = 0 by
            have x1 := HU.out
            have x2 := HV.out
            unfold cmpI
            rw [if_neg (by omega), if_pos (by omega)])
          clear h3
          go_wp2_with (fail)
          go_quiet ((first
            | (go_at_call 160; exact p_sizeQ _ _ _ (by assumption))
            | (go_at_call 159; exact c_mul64Q _ _ _ _ (by assumption) (by assumption))))
          go_wp2_with (fail)
          have b0 := B0.drewN nq
          have b1 := B1.drewN nq
          have by1 := below_drewN bx nq
          generalize wc.drewN nq = wd at b0 b1 by1 ⊢
          clear c0 c1 c2 c3 bx B0 B1
          obtain ⟨c0, c1, _, _⟩ := blk2 b0
          obtain ⟨c2, c3, _, _⟩ := blk2 b1
          go_quiet ((first
            | (go_at_call 160; exact p_sizeQ _ _ _ (by assumption))
            | (go_at_call 159; exact c_mul64Q _ _ _ _ (by assumption) (by assumption))))
          go_wp2
          go_ret
          exact ⟨ret_int (by rw [HR.out, HX.out]), below_drewN by1 _⟩
        · have HX := Lib.hid (show cmpI (n * (m' : Int)) (n' * (m : Int)) = -1 by
            have x1 := HU.out
            have x2 := HV.out
            unfold cmpI
            rw [if_pos (by omega)])
          clear h3
          have t1 : (((lo64 (n.natAbs * m') : Nat) : Int) == (lo64 (n'.natAbs * m) : Nat)) = false := by simp; omega
          have t2 : ¬ lo64 (n.natAbs * m') < lo64 (n'.natAbs * m) := by omega
          go_wp2_with (fail)
          go_quiet ((first
            | (go_at_call 160; exact p_sizeQ _ _ _ (by assumption))
            | (go_at_call 159; exact c_mul64Q _ _ _ _ (by assumption) (by assumption))))
          go_wp2_with (fail)
          have b0 := B0.drewN nq
          have b1 := B1.drewN nq
          have by1 := below_drewN bx nq
          generalize wc.drewN nq = wd at b0 b1 by1 ⊢
          clear c0 c1 c2 c3 bx B0 B1
          obtain ⟨c0, c1, _, _⟩ := blk2 b0
          obtain ⟨c2, c3, _, _⟩ := blk2 b1
          go_quiet ((first
            | (go_at_call 160; exact p_sizeQ _ _ _ (by assumption))
            | (go_at_call 159; exact c_mul64Q _ _ _ _ (by assumption) (by assumption))))
          go_wp2
          go_ret
          exact ⟨ret_int (by rw [HR.out, HX.out]), below_drewN by1 _⟩
        · have HX := Lib.hid (show cmpI (n * (m' : Int)) (n' * (m : Int)) = -1 by
            have x1 := HU.out
            have x2 := HV.out
            unfold cmpI
            rw [if_pos (by omega)])
          clear h2
          have t1 : (((hi64 (n.natAbs * m') : Nat) : Int) == (hi64 (n'.natAbs * m) : Nat)) = false := by simp; omega
          have t2 : ¬ hi64 (n.natAbs * m') < hi64 (n'.natAbs * m) := by omega
          go_wp2_with (fail)
          go_quiet ((first
            | (go_at_call 160; exact p_sizeQ _ _ _ (by assumption))
            | (go_at_call 159; exact c_mul64Q _ _ _ _ (by assumption) (by assumption))))
          go_wp2_with (fail)
          have b0 := B0.drewN nq
          have b1 := B1.drewN nq
          have by1 := below_drewN bx nq
          generalize wc.drewN nq = wd at b0 b1 by1 ⊢
          clear c0 c1 c2 c3 bx B0 B1
          obtain ⟨c0, c1, _, _⟩ := blk2 b0
          obtain ⟨c2, c3, _, _⟩ := blk2 b1
          go_quiet ((first
            | (go_at_call 160; exact p_sizeQ _ _ _ (by assumption))
            | (go_at_call 159; exact c_mul64Q _ _ _ _ (by assumption) (by assumption))))
          go_wp2
          go_ret
          exact ⟨ret_int (by rw [HR.out, HX.out]), below_drewN by1 _⟩
      · have s3 : 0 ≤ n' := by omega
        have HX := Lib.hid (show cmpI (n * (m' : Int)) (n' * (m : Int)) = -1 by
          unfold cmpI
          have x1 : n * (m' : Int) < 0 := Int.mul_neg_of_neg_of_pos s1 (by omega)
          have x2 : 0 ≤ n' * (m : Int) := Int.mul_nonneg s3 (by omega)
          rw [if_pos (by omega)])
        go_wp2
        go_ret
        exact ⟨ret_int (by rw [HR.out, HX.out]), bx⟩
    · have s4 : 0 ≤ n := by omega
      by_cases s2 : n' < 0
      · have HX := Lib.hid (show cmpI (n * (m' : Int)) (n' * (m : Int)) = 1 by
          unfold cmpI
          have x1 : n' * (m : Int) < 0 := Int.mul_neg_of_neg_of_pos s2 (by omega)
          have x2 : 0 ≤ n * (m' : Int) := Int.mul_nonneg s4 (by omega)
          rw [if_neg (by omega), if_neg (by omega)])
        go_wp2
        go_ret
        exact ⟨ret_int (by rw [HR.out, HX.out]), bx⟩
      · have s3 : 0 ≤ n' := by omega
        have hu : ((n.natAbs * m' : Nat) : Int) = n * m' := by have := abs_mul (n := n) q0'; rw [if_neg s1, Int.toNat_natCast] at this; exact this
        have hv : ((n'.natAbs * m : Nat) : Int) = n' * m := by have := abs_mul (n := n') q0; rw [if_neg s2, Int.toNat_natCast] at this; exact this
        have HU := Lib.hid hu
        have HV := Lib.hid hv
        have HW := wide_five (n.natAbs * m') (n'.natAbs * m)
        clear hu hv
        rcases HW with ⟨h1, h2⟩ | ⟨h1, h2, h3⟩ | ⟨h1, h2, h3⟩ | ⟨h1, h2, h3⟩ | ⟨h1, h2⟩
        · have HX := Lib.hid (show cmpI (n * (m' : Int)) (n' * (m : Int)) = -1 by
            have x1 := HU.out
            have x2 := HV.out
            unfold cmpI
            rw [if_pos (by omega)])
          clear h2
          go_wp2_with (fail)
          go_quiet ((first
            | (go_at_call 160; exact p_sizeQ _ _ _ (by assumption))
            | (go_at_call 159; exact c_mul64Q _ _ _ _ (by assumption) (by assumption))))
          go_wp2_with (fail)
          have b0 := B0.drewN nq
          have b1 := B1.drewN nq
          have by1 := below_drewN bx nq
          generalize wc.drewN nq = wd at b0 b1 by1 ⊢
          clear c0 c1 c2 c3 bx B0 B1
          obtain ⟨c0, c1, _, _⟩ := blk2 b0
          obtain ⟨c2, c3, _, _⟩ := blk2 b1
          go_quiet ((first
            | (go_at_call 160; exact p_sizeQ _ _ _ (by assumption))
            | (go_at_call 159; exact c_mul64Q _ _ _ _ (by assumption) (by assumption))))
          go_wp2
          go_ret
          exact ⟨ret_int (by rw [HR.out, HX.out]), below_drewN by1 _⟩
        · have HX := Lib.hid (show cmpI (n * (m' : Int)) (n' * (m : Int)) = -1 by
            have x1 := HU.out
            have x2 := HV.out
            unfold cmpI
            rw [if_pos (by omega)])
          clear h3
          go_wp2_with (fail)
          go_quiet ((first
            | (go_at_call 160; exact p_sizeQ _ _ _ (by assumption))
            | (go_at_call 159; exact c_mul64Q _ _ _ _ (by assumption) (by assumption))))
          go_wp2_with (fail)
          have b0 := B0.drewN nq
          have b1 := B1.drewN nq
          have by1 := below_drewN bx nq
          generalize wc.drewN nq = wd at b0 b1 by1 ⊢
          clear c0 c1 c2 c3 bx B0 B1
          obtain ⟨c0, c1, _, _⟩ := blk2 b0
          obtain ⟨c2, c3, _, _⟩ := blk2 b1
          go_quiet ((first
            | (go_at_call 160; exact p_sizeQ _ _ _ (by assumption))
            | (go_at_call 159; exact c_mul64Q _ _ _ _ (by assumption) (by assumption))))
          go_wp2
          go_ret
          exact ⟨ret_int (by rw [HR.out, HX.out]), below_drewN by1 _⟩
        · have HX := Lib.hid (show cmpI (n * (m' : Int)) (n' * (m : Int)) = 0 by
            have x1 := HU.out
            have x2 := HV.out
            unfold cmpI
            rw [if_neg (by omega), if_pos (by omega)])
          clear h3
          go_wp2_with (fail)
          go_quiet ((first
            | (go_at_call 160; exact p_sizeQ _ _ _ (by assumption))
            | (go_at_call 159; exact c_mul64Q _ _ _ _ (by assumption) (by assumption))))
          go_wp2_with (fail)
          have b0 := B0.drewN nq
          have b1 := B1.drewN nq
          have by1 := below_drewN bx nq
          generalize wc.drewN nq = wd at b0 b1 by1 ⊢
          clear c0 c1 c2 c3 bx B0 B1
          obtain ⟨c0, c1, _, _⟩ := blk2 b0
          obtain ⟨c2, c3, _, _⟩ := blk2 b1
          go_quiet ((first
            | (go_at_call 160; exact p_sizeQ _ _ _ (by assumption))
            | (go_at_call 159; exact c_mul64Q _ _ _ _ (by assumption) (by assumption))))
          go_wp2
          go_ret
          exact ⟨ret_int (by rw [HR.out, HX.out]), below_drewN by1 _⟩
        · have HX := Lib.hid (show cmpI (n * (m' : Int)) (n' * (m : Int)) = 1 by
            have x1 := HU.out
            have x2 := HV.out
            unfold cmpI
            rw [if_neg (by omega), if_neg (by omega)])
          clear h3
          have t1 : (((lo64 (n.natAbs * m') : Nat) : Int) == (lo64 (n'.natAbs * m) : Nat)) = false := by simp; omega
          have t2 : ¬ lo64 (n.natAbs * m') < lo64 (n'.natAbs * m) := by omega
          go_wp2_with (fail)
          go_quiet ((first
            | (go_at_call 160; exact p_sizeQ _ _ _ (by assumption))
            | (go_at_call 159; exact c_mul64Q _ _ _ _ (by assumption) (by assumption))))
          go_wp2_with (fail)
          have b0 := B0.drewN nq
          have b1 := B1.drewN nq
          have by1 := below_drewN bx nq
          generalize wc.drewN nq = wd at b0 b1 by1 ⊢
          clear c0 c1 c2 c3 bx B0 B1
          obtain ⟨c0, c1, _, _⟩ := blk2 b0
          obtain ⟨c2, c3, _, _⟩ := blk2 b1
          go_quiet ((first
            | (go_at_call 160; exact p_sizeQ _ _ _ (by assumption))
            | (go_at_call 159; exact c_mul64Q _ _ _ _ (by assumption) (by assumption))))
          go_wp2
          go_ret
          exact ⟨ret_int (by rw [HR.out, HX.out]), below_drewN by1 _⟩
        · have HX := Lib.hid (show cmpI (n * (m' : Int)) (n' * (m : Int)) = 1 by
            have x1 := HU.out
            have x2 := HV.out
            unfold cmpI
            rw [if_neg (by omega), if_neg (by omega)])
          clear h2
          have t1 : (((hi64 (n.natAbs * m') : Nat) : Int) == (hi64 (n'.natAbs * m) : Nat)) = false := by simp; omega
          have t2 : ¬ hi64 (n.natAbs * m') < hi64 (n'.natAbs * m) := by omega
          go_wp2_with (fail)
          go_quiet ((first
            | (go_at_call 160; exact p_sizeQ _ _ _ (by assumption))
            | (go_at_call 159; exact c_mul64Q _ _ _ _ (by assumption) (by assumption))))
          go_wp2_with (fail)
          have b0 := B0.drewN nq
          have b1 := B1.drewN nq
          have by1 := below_drewN bx nq
          generalize wc.drewN nq = wd at b0 b1 by1 ⊢
          clear c0 c1 c2 c3 bx B0 B1
          obtain ⟨c0, c1, _, _⟩ := blk2 b0
          obtain ⟨c2, c3, _, _⟩ := blk2 b1
          go_quiet ((first
            | (go_at_call 160; exact p_sizeQ _ _ _ (by assumption))
            | (go_at_call 159; exact c_mul64Q _ _ _ _ (by assumption) (by assumption))))
          go_wp2
          go_ret
          exact ⟨ret_int (by rw [HR.out, HX.out]), below_drewN by1 _⟩
end Go.Proofs.YtoelekhkgknneaaDoor
