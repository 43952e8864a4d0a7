/- Lean: Nearest of three points or more; the chapter's three points have their nearest line. -/
import Derived.Test.YtoelekhkgknneaaDoorLh
namespace Go.Proofs.YtoelekhkgknneaaDoor
open Go.RowKit

theorem vld_len {l : List Pt} (h : vldP l = true) : 1 ≤ l.length ∧ l.length ≤ 40 := by
  unfold vldP at h
  rw [Bool.and_eq_true, wn_iff] at h
  omega
theorem vld_at {l : List Pt} (h : vldP l = true) {i : Nat} (hi : i < l.length) : okAt l i = true := by
  unfold vldP at h
  rw [Bool.and_eq_true] at h
  exact List.all_eq_true.1 h.2 i (by simpa using hi)
theorem vld_snd {l : List Pt} (h : vldP l = true) : l.all sndP = true := by
  rw [List.all_eq_true]
  intro p hp
  obtain ⟨i, hi, e⟩ := List.getElem_of_mem hp
  have := vld_at h hi
  unfold okAt at this
  rw [Bool.and_eq_true, ptAt_of (show l[i]? = some p by rw [List.getElem?_eq_getElem hi, e])] at this
  exact this.1
theorem vld_lt {l : List Pt} (h : vldP l = true) (i j : Nat) (hij : i < j) (hj : j < l.length) : (ptAt l i).h < (ptAt l j).h := by
  have step : ∀ k, 0 < k → k < l.length → (ptAt l (k - 1)).h < (ptAt l k).h := fun k h0 hk => by
    have := vld_at h hk
    unfold okAt at this
    rw [Bool.and_eq_true, Bool.or_eq_true, decide_eq_true_eq, decide_eq_true_eq] at this
    rcases this.2 with h1 | h1
    · omega
    · exact h1
  obtain ⟨d, rfl⟩ : ∃ d, j = i + 1 + d := ⟨j - (i + 1), by omega⟩
  clear hij
  induction d with
  | zero => have := step (i + 1) (by omega) hj; simpa using this
  | succ d ih =>
    have h1 := ih (by omega)
    have h2 := step (i + 1 + (d + 1)) (by omega) hj
    rw [show i + 1 + (d + 1) - 1 = i + 1 + d by omega] at h2
    omega

set_option maxHeartbeats 400000 in
set_option maxRecDepth 20000 in
theorem p_Nearest_by (A : Option Addr) (l : List Pt) (c : Nat) (w : World) (x : Ln) (hv : vldP l = true) (hR : Rd Pt.cs 2 w A l)
    (hN : ∀ W, Below w.heap.size w W → Calls Tryd.prog 107 #[.slice A l.length c] W fun e w' => e = .returned (lineV x.1 x.2.1 x.2.2) ∧ Below W.heap.size W w') :
    Calls Tryd.prog 64 #[.slice A l.length c] w fun e w' => e = .returned (.tuple #[lineV x.1 x.2.1 x.2.2, .int .i64 0]) ∧ Below w.heap.size w w' := by
  obtain ⟨h1, h2⟩ := vld_len hv
  have HC := Lib.hid (fun W (h : Below w.heap.size w W) => p_validPoints A l c W (by omega) (hR.on h))
  rw [hv] at HC
  have HN := Lib.hid hN
  clear hv hN
  go_enter Tryd.func64, Tryd.ntmps64
  go_wp2_with (first
    | (go_at_call 106; ((with_reducible refine (HC.out _ (below_alloc _ _)).mono ?_); rintro e w1 ⟨rfl, c1⟩; have b1 : Below w.heap.size w w1 := below_tr (below_alloc _ _) c1; have D1 := (Blk.new w 102 #[.int .i64 0, .int .i64 0, .int .i64 0]).below c1 (by simp)))
    | (go_at_call 107; ((with_reducible refine (HN.out _ b1).mono ?_); rintro e w2 ⟨rfl, c2⟩; have b2 : Below w.heap.size w w2 := below_tr b1 c2; have D2 := D1.below c2 D1.lt; have q0 : w2.cell? ⟨w.heap.size, 0, none⟩ = some (.int .i64 0) := D2.cell 0; have q1 : w2.cell? ⟨w.heap.size, 1, none⟩ = some (.int .i64 0) := D2.cell 1; have q2 : w2.cell? ⟨w.heap.size, 2, none⟩ = some (.int .i64 0) := D2.cell 2; have f0 : w2.frozen? ⟨w.heap.size, 0, none⟩ = false := D2.frozen 0; have f1 : w2.frozen? ⟨w.heap.size, 1, none⟩ = false := D2.frozen 1; have f2 : w2.frozen? ⟨w.heap.size, 2, none⟩ = false := D2.frozen 2; have y2 := D2.lt)))
  refine bodyPost_ret (res_ct rfl rfl (load_line (((D2.set_ 0 _).set_ 1 _).set_ 2 _))) rfl ⟨rfl, ?_⟩
  exact (((b2.setCell (Nat.le_refl _) _).setCell (Nat.le_refl _) _).setCell (Nat.le_refl _) _)

def awL : List Pt := [⟨0, 0⟩, ⟨10, 0⟩, ⟨20, 6⟩]
theorem aw_vld : vldP awL = true := by decide +kernel
theorem aw_near : (nFold awL (trips awL.length)).1 = (-15, 3, 10) := by decide +kernel

set_option maxHeartbeats 400000 in
set_option maxRecDepth 20000 in
theorem p_awake (w : World) : Calls Tryd.prog 29 #[] w fun e w' => e = .returned (.bool true) ∧ Below w.heap.size w w' := by
  have hR : ∀ W, Blk W w.heap.size 106 #[.int .i64 0, .int .i64 0, .int .i64 10, .int .i64 0, .int .i64 20, .int .i64 6] → Rd Pt.cs 2 W (some ⟨w.heap.size, 0, none⟩) awL := fun W h _ => by
    refine ⟨w.heap.size, 0, rfl, h.lt, fun k x hx j v hv => ?_⟩
    have hk : k < 3 := (List.getElem?_eq_some_iff.1 hx).1
    rw [Nat.zero_add, h.cell]
    rcases (by omega : k = 0 ∨ k = 1 ∨ k = 2) with rfl | rfl | rfl <;> (cases hx; have hj : j < 2 := (List.getElem?_eq_some_iff.1 hv).1; rcases (by omega : j = 0 ∨ j = 1) with rfl | rfl <;> exact hv)
  have HN := Lib.hid (fun W (h : Rd Pt.cs 2 W (some ⟨w.heap.size, 0, none⟩) awL) => p_Nearest_by (some ⟨w.heap.size, 0, none⟩) awL 3 W (-15, 3, 10) aw_vld h
    (fun U hU => by have := p_nearest_many (some ⟨w.heap.size, 0, none⟩) awL 3 U (vld_snd aw_vld) (vld_lt aw_vld) (by decide) (by decide) (h.on hU); rw [aw_near] at this; exact this))
  go_enter Tryd.func29, Tryd.ntmps29
  go_wp2_with (go_at_call 64; refine (HN.out _ (hR _ (Blk.new w _ _))).mono ?_; rintro e w1 ⟨rfl, hb⟩)
  go_ret
  exact ⟨rfl, (below_tr (below_alloc _ _) hb).alloc (by have := hb.size; simp at this; omega) _⟩
end Go.Proofs.YtoelekhkgknneaaDoor
