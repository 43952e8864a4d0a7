/- Fell: directions in lowest terms by both. -/
import Derived.Test.YthklgkgincebhaaGreatDoorFw
import Derived.IntWalk
set_option linter.unusedSimpArgs false
set_option linter.unusedVariables false
namespace Go.Proofs.YthklgkgincebhaaGreatDoor
open Go.RowKit

def gc (v : Sp) : Int := (Int.gcd v.x v.y : Nat)
def shZ (v : Sp) : Sp := ⟨v.x.tdiv (gc v), v.y.tdiv (gc v)⟩
def Nz (v : Sp) : Prop := 0 < v.x * v.x + v.y * v.y
theorem nz_or {v : Sp} (h : Nz v) : v.x ≠ 0 ∨ v.y ≠ 0 := by
  unfold Nz at h
  by_cases h1 : v.x = 0
  · right; intro h2; rw [h1, h2] at h; simp at h
  · exact Or.inl h1
theorem gc_pos {v : Sp} (h : Nz v) : 0 < gc v := by
  unfold gc
  rcases nz_or h with h1 | h1
  · have := Int.gcd_pos_of_ne_zero_left v.y h1; omega
  · have := Int.gcd_pos_of_ne_zero_right v.x h1; omega
theorem same_one {ax ay bx by' : Int} (hs : ax * by' = ay * bx) (hp : 0 ≤ ax * bx) (hg : 0 < Int.gcd ax ay) (hh : 0 < Int.gcd bx by') : (Int.gcd ax ay : Int) * bx = (Int.gcd bx by' : Int) * ax := by
  have N : Int.gcd ax ay * bx.natAbs = ax.natAbs * Int.gcd bx by' := by
    rw [← Int.gcd_mul_right, ← hs, Int.gcd_mul_left]
  generalize Int.gcd ax ay = g at *
  generalize Int.gcd bx by' = h at *
  have N' : (g : Int) * (bx.natAbs : Int) = (ax.natAbs : Int) * (h : Int) := by exact_mod_cast N
  have hg' : (0 : Int) < g := by omega
  have hh' : (0 : Int) < h := by omega
  clear N hg hh hs
  rcases (by omega : 0 < ax ∨ ax = 0 ∨ ax < 0) with a | a | a
  · have hb : 0 ≤ bx := by
      rcases Int.lt_or_le bx 0 with b | b
      · have := Int.mul_neg_of_pos_of_neg a b; omega
      · exact b
    rw [Int.natAbs_of_nonneg hb, Int.natAbs_of_nonneg (Int.le_of_lt a)] at N'
    grind
  · subst a
    have e0 : (bx.natAbs : Int) = 0 := by
      rcases Int.mul_eq_zero.1 (show (g : Int) * (bx.natAbs : Int) = 0 by rw [N']; simp) with e | e
      · omega
      · exact e
    have : bx = 0 := by omega
    rw [this]; simp
  · have hb : bx ≤ 0 := by
      rcases Int.lt_or_le 0 bx with b | b
      · have := Int.mul_neg_of_neg_of_pos a b; omega
      · exact b
    rw [Int.ofNat_natAbs_of_nonpos hb, Int.ofNat_natAbs_of_nonpos (Int.le_of_lt a)] at N'
    grind
theorem tdiv_same {g h a b : Int} (hg : 0 < g) (hh : 0 < h) (da : g ∣ a) (db : h ∣ b) (e : g * b = h * a) : a.tdiv g = b.tdiv h := by
  obtain ⟨u, rfl⟩ := da
  obtain ⟨v, rfl⟩ := db
  rw [Int.mul_tdiv_cancel_left _ (by omega), Int.mul_tdiv_cancel_left _ (by omega)]
  have e1 : (g * h) * v = (g * h) * u := by grind
  exact (Int.eq_of_mul_eq_mul_left (by have := Int.mul_pos hg hh; omega) e1).symm
theorem sgn_one {ax ay bx by' : Int} (hs : ax * by' = ay * bx) (hd : 0 < ax * bx + ay * by') (hb : 0 < bx * bx + by' * by') : 0 ≤ ax * bx := by
  have e : ax * bx * (bx * bx + by' * by') = bx * bx * (ax * bx + ay * by') := by grind
  have h1 : 0 ≤ bx * bx * (ax * bx + ay * by') := Int.mul_nonneg (sq_nn bx) (by omega)
  rw [← e] at h1
  rcases Int.lt_or_le (ax * bx) 0 with h | h
  · have := Int.mul_neg_of_neg_of_pos h hb; omega
  · exact h
theorem same_short {a b : Sp} (h : Same a b) (ha : Nz a) (hb : Nz b) : shZ a = shZ b := by
  have ga := gc_pos ha
  have gb := gc_pos hb
  obtain ⟨h1, h2⟩ := h
  have s1 := sgn_one h1 h2 hb
  have s2 := sgn_one (ax := a.y) (ay := a.x) (bx := b.y) (by' := b.x) (by grind) (by grind) (by unfold Nz at hb; omega)
  have g1 : 0 < Int.gcd a.x a.y := by unfold gc at ga; omega
  have g2 : 0 < Int.gcd b.x b.y := by unfold gc at gb; omega
  have e1 : gc a * b.x = gc b * a.x := same_one h1 s1 g1 g2
  have e2 : gc a * b.y = gc b * a.y := by
    have := same_one (ax := a.y) (ay := a.x) (bx := b.y) (by' := b.x) (by grind) s2 (by rw [Int.gcd_comm]; exact g1) (by rw [Int.gcd_comm]; exact g2)
    rw [Int.gcd_comm a.y, Int.gcd_comm b.y] at this
    exact this
  unfold shZ
  congr 1
  · exact tdiv_same ga gb (Int.gcd_dvd_left _ _) (Int.gcd_dvd_left _ _) e1
  · exact tdiv_same ga gb (Int.gcd_dvd_right _ _) (Int.gcd_dvd_right _ _) e2
/-- a stack falls in direction d -/
def DirP (l : List Sp) (w d : Sp) : Prop := ∃ V, Cand l w V ∧ Nz V ∧ d = shZ V
theorem dirP_uniq {l : List Sp} {w d d' : Sp} (h : DirP l w d) (h' : DirP l w d') : d = d' := by
  obtain ⟨V, hV, nV, rfl⟩ := h
  obtain ⟨V', hV', nV', rfl⟩ := h'
  exact same_short (cand_uniq hV hV' nV nV') nV nV'
theorem bd_gc {v : Sp} {n : Int} (h : Bd n v) (h0 : 0 ≤ n) : -n ≤ (shZ v).x ∧ (shZ v).x ≤ n ∧ -n ≤ (shZ v).y ∧ (shZ v).y ≤ n := by
  unfold Bd at h
  have h1 : (shZ v).x.natAbs ≤ v.x.natAbs := by unfold shZ; dsimp only; rw [Int.natAbs_tdiv]; exact Nat.div_le_self _ _
  have h2 : (shZ v).y.natAbs ≤ v.y.natAbs := by unfold shZ; dsimp only; rw [Int.natAbs_tdiv]; exact Nat.div_le_self _ _
  omega
theorem gcd_step (a b : Int) : Int.gcd b (a.tmod b) = Int.gcd a b := by
  show Nat.gcd b.natAbs (a.tmod b).natAbs = Nat.gcd a.natAbs b.natAbs
  rw [Int.natAbs_tmod, Nat.gcd_comm, ← Nat.gcd_rec, Nat.gcd_comm]
theorem gcd_stepE {a b : Int} (h : 0 ≤ a) : Int.gcd b (a % b) = Int.gcd a b := by rw [← Int.tmod_eq_emod_of_nonneg h]; exact gcd_step a b
theorem tmod_bd {a b : Int} (_ : 0 ≤ a) (hb : 0 < b) : 0 ≤ a % b ∧ a % b < b := ⟨Int.emod_nonneg _ (by omega), Int.emod_lt_of_pos _ hb⟩
set_option maxHeartbeats 1000000 in
theorem p_shortest (v : Sp) (w : World) (hv : Bd 100000000 v) (hn : Nz v) :
    Calls Tryz.prog 46 #[spV v] w fun e w' => e = .returned (spV (shZ v)) ∧ Below w.heap.size w w' := by
  have hbq := bd_gc hv (by omega)
  have hg0 := gc_pos hn
  obtain ⟨v1, v2, v3, v4⟩ := hv
  have HQ := Lib.hid (show (shZ v).x = v.x.tdiv (gc v) ∧ (shZ v).y = v.y.tdiv (gc v) from ⟨rfl, rfl⟩)
  obtain ⟨A, hA⟩ : ∃ A : Int, A = v.x.natAbs := ⟨_, rfl⟩
  obtain ⟨B, hB⟩ : ∃ B : Int, B = v.y.natAbs := ⟨_, rfl⟩
  have HGC := Lib.hid (show Int.gcd A B = Int.gcd v.x v.y by rw [hA, hB]; simp [Int.gcd])
  have HGV := Lib.hid (show gc v = (Int.gcd v.x v.y : Int) from rfl)
  generalize shZ v = q at *
  generalize gc v = G at *
  clear hn
  have hw1 : IntKind.i64.wrap (-v.x) = -v.x := fits_wrap (by omega)
  have hw2 : IntKind.i64.wrap (-v.y) = -v.y := fits_wrap (by omega)
  have x0 := Blk.new w 32 (spA v)
  have hA' : max v.x (-v.x) = A := by omega
  have hB' : max v.y (-v.y) = B := by omega
  have a0 : 0 ≤ A := by omega
  have a1 : A ≤ 1000000000 := by omega
  have b0 : 0 ≤ B := by omega
  have b1 : B ≤ 1000000000 := by omega
  clear hA hB
  obtain ⟨W1, hW1⟩ : ∃ W1, W1 = ((w.alloc (.cells (spA v) 32)).alloc (.cells #[.int .i64 0, .int .i64 0] 32)).drew := ⟨_, rfl⟩
  have x1 : Blk W1 w.heap.size 32 (spA v) := by rw [hW1]; exact x0.alloc (.cells #[.int .i64 0, .int .i64 0] 32)
  have x2 : Blk W1 (w.heap.size + 1) 32 #[.int .i64 0, .int .i64 0] := by
    have := Blk.new (w.alloc (.cells (spA v) 32)) 32 #[.int .i64 0, .int .i64 0]
    rw [World.size_alloc] at this
    rw [hW1]; exact this
  have B1 : Below w.heap.size w W1 := by rw [hW1]; exact below_draw (bl_alloc (bl_alloc (below_refl w) (.cells (spA v) 32)) (.cells #[.int .i64 0, .int .i64 0] 32))
  go_enter Tryz.func46, Tryz.ntmps46
  go_wp2_with fail
  go_region
  go_wp2_with fail
  rw [show ((w.alloc (.cells #[.int .i64 v.x, .int .i64 v.y] 32)).alloc (.cells #[.int .i64 0, .int .i64 0] 32)).drew = W1 from hW1.symm]
  clear hW1
  go_loopw [3, 4] (fun x y wr => ∃ a' b' : Int, x = .int .i64 a' ∧ y = .int .i64 b' ∧ 0 ≤ a' ∧ a' ≤ 1000000000 ∧ 0 ≤ b' ∧ b' ≤ 1000000000 ∧ Hid (Int.gcd a' b' = Int.gcd v.x v.y) ∧ Below w.heap.size w wr ∧ Blk wr w.heap.size 32 (spA v) ∧ Blk wr (w.heap.size + 1) 32 #[.int .i64 0, .int .i64 0]) (fun x y _ => (intOf y).natAbs)
  case atStart =>
    exact ⟨A, B, rfl, rfl, a0, a1, b0, b1, HGC.out, B1, x1, x2⟩
  case round =>
    clear B1 x1 x2 x0 hA' hB' a0 a1 b0 b1 HGC
    obtain ⟨a', b', rfl, rfl, a0', a1', b0', b1', HG, hbw, y0, y1⟩ := hrel
    by_cases hz : 0 < b'
    · have t1 : (b' == 0) = false := by simp; omega
      obtain ⟨m0, m1⟩ := tmod_bd a0' hz
      have e1 : IntKind.i64.wrap (a' % b') = a' % b' := fits_wrap (by omega)
      have HT := Lib.hid (show Int.gcd b' (a' % b') = Int.gcd v.x v.y by rw [gcd_stepE a0']; exact HG.out)
      clear HG
      go_wp2
      go_quiet (fail)
      go_wp2
      go_roundw
      case rel => exact ⟨b', a' % b', rfl, rfl, b0', b1', m0, by omega, HT.out, below_drewN hbw _, y0.drewN _, y1.drewN _⟩
      case measure => simp only [intOf]; omega
    · obtain rfl : b' = 0 := by omega
      have hG : a' = G := by rw [HGV.out, ← HG.out]; simp; omega
      subst hG
      clear HG HGV
      have t1 : (a' == 0) = false := by simp; omega
      have e1 : IntKind.i64.wrap (v.x.tdiv a') = q.x := by rw [← HQ.out.1]; exact fits_wrap (by omega)
      have e2 : IntKind.i64.wrap (v.y.tdiv a') = q.y := by rw [← HQ.out.2]; exact fits_wrap (by omega)
      have p0 := y0.cell 0
      have p1 := y0.cell 1
      have q0 := y1.cell 0
      have q1 := y1.cell 1
      simp only [List.getElem?_toArray, List.getElem?_cons_zero, List.getElem?_cons_succ] at p0 p1 q0 q1
      have z0 := y0.lt
      have z1 := y1.lt
      have f0 := y1.frozen 0
      have f1 := y1.frozen 1
      go_wp2_with fail
      go_region
      go_wp2
      (refine bodyPost_ret (v := .agg #[.int .i64 q.x, .int .i64 q.y]) (by simp [results, Tryz.results46, go_sem, *]) rfl ⟨rfl, ?_⟩; (repeat' (first | assumption | exact below_refl _ | refine bl_alloc ?_ _ | refine Below.setCell ?_ ?_ _ | refine below_draw ?_ | refine below_drewN ?_ _ | refine below_tr ?_ (by assumption))) <;> (first | omega | (simp; done) | (simp; omega)))
end Go.Proofs.YthklgkgincebhaaGreatDoor
