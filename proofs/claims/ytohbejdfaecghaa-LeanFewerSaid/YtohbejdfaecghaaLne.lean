/- Lean: whether three points prove a line, by both. -/
import Derived.Test.YtohbejdfaecghaaLna
import Derived.Test.YtohbejdfaecghaaLty
import Derived.Test.YtohbejdfaecghaaLpn
set_option linter.unusedSimpArgs false
set_option linter.unusedVariables false
namespace Go.Proofs.Ytohbejdfaecghaa
open Go.RowKit

theorem prv_of {a b d : Int} {l : List Pt} {i j k : Nat} {p q r : Pt} (hi : l[i]? = some p) (hj : l[j]? = some q) (hk : l[k]? = some r) :
    prvB (a, b, d) l (i, j, k) = (decide (offV a b d p = offV a b d r) && (decide (offV a b d q = -offV a b d p) && (decide (offV a b d p = eMax l (a, b, d)) || decide (offV a b d p = -eMax l (a, b, d))))) := by
  unfold prvB off3
  dsimp only
  rw [ptAt_of hi, ptAt_of hj, ptAt_of hk]
theorem prv_ways {P Q R E : Int} {B : Bool} (h : B = (decide (P = R) && (decide (Q = -P) && (decide (P = E) || decide (P = -E))))) :
    ((P == R) = false ∧ B = false) ∨ ((P == R) = true ∧ (Q == -P) = false ∧ B = false) ∨ ((P == R) = true ∧ (Q == -P) = true ∧ (P == E) = true ∧ B = true) ∨
    ((P == R) = true ∧ (Q == -P) = true ∧ (P == E) = false ∧ (P == -E) = true ∧ B = true) ∨ ((P == R) = true ∧ (Q == -P) = true ∧ (P == E) = false ∧ (P == -E) = false ∧ B = false) := by
  by_cases h1 : P = R <;> by_cases h2 : Q = -P <;> by_cases h3 : P = E <;> by_cases h4 : P = -E <;> simp [h1, h2, h3, h4] at h ⊢ <;> simp_all
theorem prv_ways' {P Q R E : Int} {B : Bool} (h : B = (decide (P = R) && (decide (Q = -P) && (decide (P = E) || decide (P = -E))))) (hE : E ≠ 0) (h0 : 0 ≤ E) :
    ((P == E) = true ∧ (Q == -E) = true ∧ (R == E) = true ∧ B = true) ∨ ((P == E) = true ∧ (Q == -E) = true ∧ (R == E) = false ∧ (P == -E) = false ∧ B = false) ∨
    ((P == E) = true ∧ (Q == -E) = false ∧ (P == -E) = false ∧ B = false) ∨ ((P == E) = false ∧ (P == -E) = false ∧ B = false) ∨
    ((P == E) = false ∧ (P == -E) = true ∧ (Q == E) = false ∧ B = false) ∨ ((P == E) = false ∧ (P == -E) = true ∧ (Q == E) = true ∧ (R == -E) = false ∧ B = false) ∨
    ((P == E) = false ∧ (P == -E) = true ∧ (Q == E) = true ∧ (R == -E) = true ∧ B = true) := by
  have hne : ¬ E = -E := by omega
  have hne' : ¬ -E = E := by omega
  by_cases h3 : P = E
  · subst h3
    by_cases h2 : Q = -P <;> by_cases h1 : R = P
    all_goals (have h1' : (P = R) = (R = P) := propext ⟨Eq.symm, Eq.symm⟩)
    all_goals simp [h1', h1, h2, hne] at h ⊢
    all_goals simp_all
  · by_cases h4 : P = -E
    · subst h4
      by_cases h2 : Q = E <;> by_cases h1 : R = -E
      all_goals (have h1' : (-E = R) = (R = -E) := propext ⟨Eq.symm, Eq.symm⟩)
      all_goals simp [h1', h1, h2, hne'] at h ⊢
      all_goals simp_all
    · simp [h3, h4] at h ⊢
      exact h
theorem ret_b {a b : Bool} {W W' : World} {n : Nat} (h : a = b) (hb : Below n W W') : Ending.returned (.bool a) = .returned (.bool b) ∧ Below n W W' := ⟨by rw [h], hb⟩
set_option maxHeartbeats 2000000 in
set_option maxRecDepth 20000 in
theorem p_proves (a b d : Int) (A : Option Addr) (l : List Pt) (c : Nat) (i j k : Nat) (w : World) (hl : LB a b d) (hs : ∀ p ∈ l, SP p) (hR : Rd Pt.cs 2 w A l) (hn : l.length ≤ 40) (hi : i < l.length) (hj : j < l.length) (hk : k < l.length) :
    Calls Try.prog 86 #[lineV a b d, .slice A l.length c, .agg #[.int .i64 i, .int .i64 j, .int .i64 k]] w fun e w' => e = .returned (.bool (prvB (a, b, d) l (i, j, k))) ∧ Below w.heap.size w w' := by
  obtain ⟨p, ab, off, hx, rfl, hab, p0, p1⟩ := rdP hR hi
  obtain ⟨q, _, _, hy, he, _, q0, q1⟩ := rdP hR hj
  cases he
  obtain ⟨r, _, _, hz, he, _, r0, r1⟩ := rdP hR hk
  cases he
  have sp := hs p (List.mem_of_getElem? hx)
  have sq := hs q (List.mem_of_getElem? hy)
  have sr := hs r (List.mem_of_getElem? hz)
  have HW := fun W (h : Below w.heap.size w W) => p_worst a b d (some ⟨ab, off, none⟩) l c W hl hs (hR.on h) (by omega) hn
  have HP := fun W => p_off a b d p W hl sp
  have HQ := fun W => p_off a b d q W hl sq
  have HS := fun W => p_off a b d r W hl sr
  obtain ⟨_, _, _, _, a0, a1⟩ := ob_of hl sp
  obtain ⟨_, _, _, _, b0, b1⟩ := ob_of hl sq
  obtain ⟨_, _, _, _, e0, e1⟩ := ob_of hl sr
  have hbd : 0 ≤ eMax l (a, b, d) ∧ eMax l (a, b, d) ≤ 310000000000000000 := by
    have hlt := wst_lt (x := (a, b, d)) (l := l) (by omega)
    obtain ⟨s, hs'⟩ := get_lt hlt
    unfold eMax
    rw [ptAt_of hs']
    exact far_bd hl (hs s (List.mem_of_getElem? hs'))
  obtain ⟨h0, h1⟩ := hbd
  have hw := prv_ways (prv_of (a := a) (b := b) (d := d) hx hy hz)
  generalize prvB (a, b, d) l (i, j, k) = B at *
  generalize eMax l (a, b, d) = E at *
  generalize wst (a, b, d) l = m at *
  generalize offV a b d p = P at *
  generalize offV a b d q = Q at *
  generalize offV a b d r = S at *
  have HW := Lib.hid HW
  have HP := Lib.hid HP
  have HQ := Lib.hid HQ
  have HS := Lib.hid HS
  have i0 : (0 : Int) ≤ (i : Int) := Int.natCast_nonneg _
  have i1 : (i : Int) < (l.length : Int) := by omega
  have j0 : (0 : Int) ≤ (j : Int) := Int.natCast_nonneg _
  have j1 : (j : Int) < (l.length : Int) := by omega
  have k0 : (0 : Int) ≤ (k : Int) := Int.natCast_nonneg _
  have k1 : (k : Int) < (l.length : Int) := by omega
  have HWW := Lib.hid hw
  clear hx hy hz hs hl hR sp sq sr hw
  go_enter Try.func86, Try.ntmps86
  go_wp2_with (go_at_call 73; ((with_reducible refine (HW.out _ (below_tr (below_alloc _ _) (below_alloc _ _))).mono ?_); rintro e w1 ⟨rfl, hb1⟩; obtain ⟨hc1, hf1⟩ := bcell hb1; have hz1 := hb1.size; (try simp [sz_drew, sz_drewN] at hz1); (try simp only [sz_drew, sz_drewN] at hc1 hf1); have z1_0 : w.heap.size < w1.heap.size := (by omega); have z1_1 : w.heap.size + 1 < w1.heap.size := (by omega)))
  refine wp_world ?_
  intro W1 hW1
  have bW1 : Below w.heap.size w W1 := by rw [hW1]; (repeat' (first | assumption | exact below_refl _ | refine bl_alloc ?_ _ | refine Below.setCell ?_ ?_ _ | refine below_draw ?_ | refine below_drewN ?_ _ | refine below_tr ?_ (by assumption))) <;> (first | omega | (simp; done) | (simp; omega))
  have gW1_0 : w.heap.size < W1.heap.size := by rw [hW1]; (first | assumption | (simp; done) | (simp; omega))
  have gW1_0_0 : W1.cell? ⟨w.heap.size, 0, none⟩ = some (.int .i64 a) := by rw [hW1]; go_simp
  have gW1_0_1 : W1.cell? ⟨w.heap.size, 1, none⟩ = some (.int .i64 b) := by rw [hW1]; go_simp
  have gW1_0_2 : W1.cell? ⟨w.heap.size, 2, none⟩ = some (.int .i64 d) := by rw [hW1]; go_simp
  have gW1_1 : w.heap.size + 1 < W1.heap.size := by rw [hW1]; (first | assumption | (simp; done) | (simp; omega))
  have gW1_1_0 : W1.cell? ⟨w.heap.size + 1, 0, none⟩ = some (.int .i64 i) := by rw [hW1]; go_simp
  have gW1_1_1 : W1.cell? ⟨w.heap.size + 1, 1, none⟩ = some (.int .i64 j) := by rw [hW1]; go_simp
  have gW1_1_2 : W1.cell? ⟨w.heap.size + 1, 2, none⟩ = some (.int .i64 k) := by rw [hW1]; go_simp
  clear hW1
  have c0 : W1.cell? ⟨ab, off + i * 2, none⟩ = some (.int .i64 p.h) := by rw [(bcell bW1).1 _ _ hab]; exact p0
  have c1 : W1.cell? ⟨ab, off + i * 2 + 1, none⟩ = some (.int .i64 p.x) := by rw [(bcell bW1).1 _ _ hab]; exact p1
  have c2 : W1.cell? ⟨ab, off + j * 2, none⟩ = some (.int .i64 q.h) := by rw [(bcell bW1).1 _ _ hab]; exact q0
  have c3 : W1.cell? ⟨ab, off + j * 2 + 1, none⟩ = some (.int .i64 q.x) := by rw [(bcell bW1).1 _ _ hab]; exact q1
  have c4 : W1.cell? ⟨ab, off + k * 2, none⟩ = some (.int .i64 r.h) := by rw [(bcell bW1).1 _ _ hab]; exact r0
  have c5 : W1.cell? ⟨ab, off + k * 2 + 1, none⟩ = some (.int .i64 r.x) := by rw [(bcell bW1).1 _ _ hab]; exact r1
  have gab : ab < W1.heap.size := Nat.lt_of_lt_of_le hab bW1.size
  clear p0 p1 q0 q1 r0 r1 hc1 hf1 hb1
  go_region_held3 (fun w' => (∀ b o, b < W1.heap.size → w'.cell? ⟨b, o, none⟩ = W1.cell? ⟨b, o, none⟩) ∧ (∀ b o, b < W1.heap.size → w'.frozen? ⟨b, o, none⟩ = W1.frozen? ⟨b, o, none⟩) ∧ Below W1.heap.size W1 w') ((first | assumption | (refine kp_of ?_; (repeat' (first | assumption | exact below_refl _ | refine bl_alloc ?_ _ | refine Below.setCell ?_ ?_ _ | refine below_draw ?_ | refine below_drewN ?_ _ | refine below_tr ?_ (by assumption))) <;> (first | omega | (simp; done) | (simp; omega))))) ((first | (go_at_call 63; ((with_reducible refine (HP.out _).mono ?_); rintro e w3 ⟨rfl, hb3⟩; obtain ⟨hc3, hf3⟩ := bcell hb3; have hz3 := hb3.size; (try simp [sz_drew, sz_drewN] at hz3); (try simp only [sz_drew, sz_drewN] at hc3 hf3))) | (go_at_call 63; ((with_reducible refine (HQ.out _).mono ?_); rintro e w4 ⟨rfl, hb4⟩; obtain ⟨hc4, hf4⟩ := bcell hb4; have hz4 := hb4.size; (try simp [sz_drew, sz_drewN] at hz4); (try simp only [sz_drew, sz_drewN] at hc4 hf4))) | (go_at_call 63; ((with_reducible refine (HS.out _).mono ?_); rintro e w5 ⟨rfl, hb5⟩; obtain ⟨hc5, hf5⟩ := bcell hb5; have hz5 := hb5.size; (try simp [sz_drew, sz_drewN] at hz5); (try simp only [sz_drew, sz_drewN] at hc5 hf5)))))
  all_goals
    rcases HWW.out with ⟨t1, hB⟩ | ⟨t1, t2, hB⟩ | ⟨t1, t2, t3, hB⟩ | ⟨t1, t2, t3, t4, hB⟩ | ⟨t1, t2, t3, t4, hB⟩
    all_goals
      have HB := Lib.hid hB
      clear hB HWW
      go_wp2
      go_ret
      exact ret_b HB.out.symm (by (repeat' (first | assumption | exact below_refl _ | refine bl_alloc ?_ _ | refine Below.setCell ?_ ?_ _ | refine below_draw ?_ | refine below_drewN ?_ _ | refine below_tr ?_ (by assumption))) <;> (first | omega | (simp; done) | (simp; omega)))
end Go.Proofs.Ytohbejdfaecghaa
