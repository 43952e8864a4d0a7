/- Lean: whether three points prove a line, by the reference; Proves by both. -/
import Derived.Test.YtohbejdfaecghaaLne
set_option linter.unusedSimpArgs false
set_option linter.unusedVariables false
namespace Go.Proofs.Ytohbejdfaecghaa
open Go.RowKit

theorem prv_zero {x : Ln} {l : List Pt} {t : Trip} (hE : eMax l x = 0) (h1 : t.1 < l.length) (h2 : t.2.1 < l.length) (h3 : t.2.2 < l.length) : prvB x l t = true := by
  have a := eMax_wi l x t.1 h1
  have b := eMax_wi l x t.2.1 h2
  have c := eMax_wi l x t.2.2 h3
  rw [hE] at a b c
  unfold prvB
  simp only [Bool.and_eq_true, Bool.or_eq_true, decide_eq_true_eq]
  rw [hE]
  omega
set_option maxHeartbeats 2000000 in
set_option maxRecDepth 20000 in
theorem r_proves (a b d : Int) (A : Option Addr) (l : List Pt) (c : Nat) (i j k : Nat) (w : World) (hl : LB a b d) (hs : ∀ p ∈ l, SP p) (hR : Rd Pt.cs 2 w A l) (hn : l.length ≤ 40) (hi : i < l.length) (hj : j < l.length) (hk : k < l.length) :
    Calls Try.prog 87 #[lineV a b d, .slice A l.length c, .agg #[.int .i64 i, .int .i64 j, .int .i64 k]] w fun e w' => e = .returned (.bool (prvB (a, b, d) l (i, j, k))) ∧ Below w.heap.size w w' := by
  obtain ⟨p, ab, off, hx, rfl, hab, p0, p1⟩ := rdP hR hi
  obtain ⟨q, _, _, hy, he, _, q0, q1⟩ := rdP hR hj
  cases he
  obtain ⟨r, _, _, hz, he, _, r0, r1⟩ := rdP hR hk
  cases he
  have hlt := wst_lt (x := (a, b, d)) (l := l) (by omega)
  obtain ⟨s, _, _, hu, he, _, s0, s1⟩ := rdP hR hlt
  cases he
  have sp := hs p (List.mem_of_getElem? hx)
  have sq := hs q (List.mem_of_getElem? hy)
  have sr := hs r (List.mem_of_getElem? hz)
  have ss := hs s (List.mem_of_getElem? hu)
  have HW := fun W (h : Below w.heap.size w W) => r_worst a b d (some ⟨ab, off, none⟩) l c W hl hs (hR.on h) (by omega) hn
  have HF := fun W => r_far a b d s W hl ss
  have HP := fun W => r_off a b d p W hl sp
  have HQ := fun W => r_off a b d q W hl sq
  have HS := fun W => r_off a b d r W hl sr
  obtain ⟨_, _, _, _, a0, a1⟩ := ob_of hl sp
  obtain ⟨_, _, _, _, b0, b1⟩ := ob_of hl sq
  obtain ⟨_, _, _, _, e0, e1⟩ := ob_of hl sr
  obtain ⟨h0, h1⟩ := far_bd hl ss
  have he : eMax l (a, b, d) = farV a b d s := by unfold eMax; rw [ptAt_of hu]
  have hw := prv_of (a := a) (b := b) (d := d) hx hy hz
  have hz0 := fun h => prv_zero (x := (a, b, d)) (l := l) (t := (i, j, k)) h hi hj hk
  rw [he] at hw hz0
  have hw2 := fun hne => prv_ways' hw hne h0
  clear he hw
  generalize prvB (a, b, d) l (i, j, k) = B at *
  generalize farV a b d s = E at *
  generalize wst (a, b, d) l = m at *
  generalize offV a b d p = P at *
  generalize offV a b d q = Q at *
  generalize offV a b d r = S at *
  have HW := Lib.hid HW
  have HF := Lib.hid HF
  have HP := Lib.hid HP
  have HQ := Lib.hid HQ
  have HS := Lib.hid HS
  have i0 : (0 : Int) ≤ (i : Int) := Int.natCast_nonneg _
  have i1 : (i : Int) < (l.length : Int) := by omega
  have j0 : (0 : Int) ≤ (j : Int) := Int.natCast_nonneg _
  have j1 : (j : Int) < (l.length : Int) := by omega
  have k0 : (0 : Int) ≤ (k : Int) := Int.natCast_nonneg _
  have k1 : (k : Int) < (l.length : Int) := by omega
  have m0 : (0 : Int) ≤ (m : Int) := Int.natCast_nonneg _
  have m1 : (m : Int) < (l.length : Int) := by omega
  have HW2 := Lib.hid hw2
  have HZ := Lib.hid hz0
  clear hx hy hz hu hs hl hR sp sq sr ss hw2 hz0
  go_enter Try.func87, Try.ntmps87
  go_wp2_with (fail)
  refine wp_world ?_
  intro W1 hW1
  have bW1 : Below w.heap.size w W1 := by rw [hW1]; (repeat' (first | assumption | exact below_refl _ | refine bl_alloc ?_ _ | refine Below.setCell ?_ ?_ _ | refine below_draw ?_ | refine below_drewN ?_ _ | refine below_tr ?_ (by assumption))) <;> (first | omega | (simp; done) | (simp; omega))
  have gW1_0 : w.heap.size < W1.heap.size := by rw [hW1]; (first | assumption | (simp; done) | (simp; omega))
  have gW1_0_0 : W1.cell? ⟨w.heap.size, 0, none⟩ = some (.int .i64 a) := by rw [hW1]; go_simp
  have gW1_0_1 : W1.cell? ⟨w.heap.size, 1, none⟩ = some (.int .i64 b) := by rw [hW1]; go_simp
  have gW1_0_2 : W1.cell? ⟨w.heap.size, 2, none⟩ = some (.int .i64 d) := by rw [hW1]; go_simp
  have gW1_1 : w.heap.size + 1 < W1.heap.size := by rw [hW1]; (first | assumption | (simp; done) | (simp; omega))
  have gW1_1_0 : W1.cell? ⟨w.heap.size + 1, 0, none⟩ = some (.int .i64 i) := by rw [hW1]; go_simp
  have gW1_1_1 : W1.cell? ⟨w.heap.size + 1, 1, none⟩ = some (.int .i64 j) := by rw [hW1]; go_simp
  have gW1_1_2 : W1.cell? ⟨w.heap.size + 1, 2, none⟩ = some (.int .i64 k) := by rw [hW1]; go_simp
  clear hW1
  have s0' : W1.cell? ⟨ab, off + m * 2, none⟩ = some (.int .i64 s.h) := by rw [(bcell bW1).1 _ _ hab]; exact s0
  have s1' : W1.cell? ⟨ab, off + m * 2 + 1, none⟩ = some (.int .i64 s.x) := by rw [(bcell bW1).1 _ _ hab]; exact s1
  have c0 : W1.cell? ⟨ab, off + i * 2, none⟩ = some (.int .i64 p.h) := by rw [(bcell bW1).1 _ _ hab]; exact p0
  have c1 : W1.cell? ⟨ab, off + i * 2 + 1, none⟩ = some (.int .i64 p.x) := by rw [(bcell bW1).1 _ _ hab]; exact p1
  have c2 : W1.cell? ⟨ab, off + j * 2, none⟩ = some (.int .i64 q.h) := by rw [(bcell bW1).1 _ _ hab]; exact q0
  have c3 : W1.cell? ⟨ab, off + j * 2 + 1, none⟩ = some (.int .i64 q.x) := by rw [(bcell bW1).1 _ _ hab]; exact q1
  have c4 : W1.cell? ⟨ab, off + k * 2, none⟩ = some (.int .i64 r.h) := by rw [(bcell bW1).1 _ _ hab]; exact r0
  have c5 : W1.cell? ⟨ab, off + k * 2 + 1, none⟩ = some (.int .i64 r.x) := by rw [(bcell bW1).1 _ _ hab]; exact r1
  have gab : ab < W1.heap.size := Nat.lt_of_lt_of_le hab bW1.size
  clear p0 p1 q0 q1 r0 r1 s0 s1
  refine wp_region_noPanic ?_
  refine wp_region_held_drew (S := (fun w' => (∀ b o, b < W1.heap.size → w'.cell? ⟨b, o, none⟩ = W1.cell? ⟨b, o, none⟩) ∧ (∀ b o, b < W1.heap.size → w'.frozen? ⟨b, o, none⟩ = W1.frozen? ⟨b, o, none⟩) ∧ Below W1.heap.size W1 w')) (by kernel_rfl) (kq_draw kq_refl) (fun hS0 => ?_)
  refine wpAnyH_take (i := 0) (oi := { dst := some 11, op := _, type := _, pos := _, after := _, guard := none }) (v := ?gv1) rfl (by kernel_rfl) (by kernel_rfl) (by kernel_rfl) (fun _ _ _ h => h) (Or.inl ⟨by rfl, ?gy1⟩) (by assumption) ?_
  case gy1 => (intro w' hSw; go_simp; try with_reducible rfl)
  try simp only [Act.put, List.setIfInBounds_toArray, List.set_cons_zero, List.set_cons_succ]
  refine wpAnyH_take (i := 1) (oi := { dst := some 12, op := _, type := _, pos := _, after := _, guard := none }) (v := ?gv2) rfl (by kernel_rfl) (by kernel_rfl) (by kernel_rfl) (fun _ _ _ h => h) (Or.inl ⟨by rfl, ?gy2⟩) (by assumption) ?_
  case gy2 => (intro w' hSw; go_simp; try with_reducible rfl)
  try simp only [Act.put, List.setIfInBounds_toArray, List.set_cons_zero, List.set_cons_succ]
  refine wpAnyH_take (i := 2) (oi := { dst := some 13, op := _, type := _, pos := _, after := _, guard := none }) (v := ?gv3) rfl (by kernel_rfl) (by kernel_rfl) (by kernel_rfl) (fun _ _ _ h => h) (Or.inl ⟨by rfl, ?gy3⟩) (by assumption) ?_
  case gy3 => (intro w' hSw; go_simp; try with_reducible rfl)
  try simp only [Act.put, List.setIfInBounds_toArray, List.set_cons_zero, List.set_cons_succ]
  refine wpAnyH_take (i := 3) (oi := { dst := some 14, op := _, type := _, pos := _, after := _, guard := none }) (v := ?gv4) rfl (by kernel_rfl) (by kernel_rfl) (by kernel_rfl) (fun _ _ _ h => h) (Or.inl ⟨by rfl, ?gy4⟩) (by assumption) ?_
  case gy4 => (intro w' hSw; go_simp; try with_reducible rfl)
  try simp only [Act.put, List.setIfInBounds_toArray, List.set_cons_zero, List.set_cons_succ]
  refine wpAnyH_ready (rs := [4]) (by kernel_rfl) (by simp) ?_
  refine AllReadyH.cons rfl (fun K hK => ?_) AllReadyH.nil
  go_simp
  (go_at_call 74; ((with_reducible refine (HW.out _ (below_draw bW1)).mono ?_); rintro e w3 ⟨rfl, hb3⟩; obtain ⟨hc3, hf3⟩ := bcell hb3; have hz3 := hb3.size; (try simp [sz_drew, sz_drewN] at hz3); (try simp only [sz_drew, sz_drewN] at hc3 hf3); have z3_0 : w.heap.size < w3.heap.size := (by omega); have z3_1 : w.heap.size + 1 < w3.heap.size := (by omega); have y3_0 : ab < w3.heap.size := (by omega)))
  refine hK.out _ _ (by ((show Kq W1 _); (repeat' (first | assumption | exact kq_refl | refine kq_draw ?_ | refine kq_drewN ?_ | refine kq_alloc ?_ | refine kq_set ?_ ?_ | refine kq_step ?_ (by assumption))); (all_goals (first | omega | (simp; omega))))) (fun hS1 => ?_)
  clear hK K
  try simp only [Act.put, List.setIfInBounds_toArray, List.set_cons_zero, List.set_cons_succ]
  refine wpAnyH_take (i := 5) (oi := { dst := some 16, op := _, type := _, pos := _, after := _, guard := none }) (v := ?gv5) rfl (by kernel_rfl) (by kernel_rfl) (by kernel_rfl) (fun _ _ _ h => h) (Or.inl ⟨by rfl, ?gy5⟩) (by assumption) ?_
  case gy5 => (intro w' hSw; go_simp; try with_reducible rfl)
  try simp only [Act.put, List.setIfInBounds_toArray, List.set_cons_zero, List.set_cons_succ]
  refine wpAnyH_take (i := 6) (oi := { dst := some 17, op := _, type := _, pos := _, after := _, guard := none }) (v := ?gv6) rfl (by kernel_rfl) (by kernel_rfl) (by kernel_rfl) (fun _ _ _ h => h) (Or.inl ⟨by rfl, ?gy6⟩) (by assumption) ?_
  case gy6 => (intro w' hSw; go_simp; try with_reducible rfl)
  try simp only [Act.put, List.setIfInBounds_toArray, List.set_cons_zero, List.set_cons_succ]
  refine wpAnyH_ready (rs := [7]) (by kernel_rfl) (by simp) ?_
  refine AllReadyH.cons rfl (fun K hK => ?_) AllReadyH.nil
  go_simp
  (go_at_call 72; ((with_reducible refine (HF.out _).mono ?_); rintro e w4 ⟨rfl, hb4⟩; obtain ⟨hc4, hf4⟩ := bcell hb4; have hz4 := hb4.size; (try simp [sz_drew, sz_drewN] at hz4); (try simp only [sz_drew, sz_drewN] at hc4 hf4); have z4_0 : w.heap.size < w4.heap.size := (by omega); have z4_1 : w.heap.size + 1 < w4.heap.size := (by omega); have y4_0 : ab < w4.heap.size := (by omega)))
  refine hK.out _ _ (by ((show Kq W1 _); (repeat' (first | assumption | exact kq_refl | refine kq_draw ?_ | refine kq_drewN ?_ | refine kq_alloc ?_ | refine kq_set ?_ ?_ | refine kq_step ?_ (by assumption))); (all_goals (first | omega | (simp; omega))))) (fun hS2 => ?_)
  clear hK K
  try simp only [Act.put, List.setIfInBounds_toArray, List.set_cons_zero, List.set_cons_succ]
  refine wpAnyH_take (i := 8) (oi := { dst := some 7, op := _, type := _, pos := _, after := _, guard := none }) (v := ?gv7) rfl (by kernel_rfl) (by kernel_rfl) (by kernel_rfl) (fun _ _ _ h => h) (Or.inl ⟨by rfl, ?gy7⟩) (by assumption) ?_
  case gy7 => (intro w' hSw; go_simp; try with_reducible rfl)
  try simp only [Act.put, List.setIfInBounds_toArray, List.set_cons_zero, List.set_cons_succ]
  refine wpAnyH_done (by kernel_rfl) (NoPanic.normal ?_) _
  by_cases hE : E = 0
  · have t0 : (E == 0) = true := by simpa using hE
    have HB := Lib.hid (HZ.out hE)
    clear hE
    go_wp2
    go_ret
    exact ret_b HB.out.symm (by (repeat' (first | assumption | exact below_refl _ | refine bl_alloc ?_ _ | refine Below.setCell ?_ ?_ _ | refine below_draw ?_ | refine below_drewN ?_ _ | refine below_tr ?_ (by assumption))) <;> (first | omega | (simp; done) | (simp; omega)))
  · have t0 : (E == 0) = false := by simpa using hE
    have HWW := Lib.hid (HW2.out hE)
    clear hE
    go_wp2
    refine wp_world ?_
    intro W2 hW2
    have bW2 : Below w.heap.size w W2 := by rw [hW2]; (repeat' (first | assumption | exact below_refl _ | refine bl_alloc ?_ _ | refine Below.setCell ?_ ?_ _ | refine below_draw ?_ | refine below_drewN ?_ _ | refine below_tr ?_ (by assumption))) <;> (first | omega | (simp; done) | (simp; omega))
    have g2 : w.heap.size < W2.heap.size := by rw [hW2]; first | assumption | (simp; omega)
    have g3 : w.heap.size + 1 < W2.heap.size := by rw [hW2]; first | assumption | (simp; omega)
    have g4 : ab < W2.heap.size := by rw [hW2]; first | assumption | (simp; omega)
    have x0 : W2.cell? ⟨w.heap.size, 0, none⟩ = some (.int .i64 a) := by rw [hW2]; go_simp
    have x1 : W2.cell? ⟨w.heap.size, 1, none⟩ = some (.int .i64 b) := by rw [hW2]; go_simp
    have x2 : W2.cell? ⟨w.heap.size, 2, none⟩ = some (.int .i64 d) := by rw [hW2]; go_simp
    have x3 : W2.cell? ⟨w.heap.size + 1, 0, none⟩ = some (.int .i64 i) := by rw [hW2]; go_simp
    have x4 : W2.cell? ⟨w.heap.size + 1, 1, none⟩ = some (.int .i64 j) := by rw [hW2]; go_simp
    have x5 : W2.cell? ⟨w.heap.size + 1, 2, none⟩ = some (.int .i64 k) := by rw [hW2]; go_simp
    have n0 : W2.cell? ⟨ab, off + i * 2, none⟩ = some (.int .i64 p.h) := by rw [hW2]; go_simp
    have n1 : W2.cell? ⟨ab, off + i * 2 + 1, none⟩ = some (.int .i64 p.x) := by rw [hW2]; go_simp
    have n2 : W2.cell? ⟨ab, off + j * 2, none⟩ = some (.int .i64 q.h) := by rw [hW2]; go_simp
    have n3 : W2.cell? ⟨ab, off + j * 2 + 1, none⟩ = some (.int .i64 q.x) := by rw [hW2]; go_simp
    have n4 : W2.cell? ⟨ab, off + k * 2, none⟩ = some (.int .i64 r.h) := by rw [hW2]; go_simp
    have n5 : W2.cell? ⟨ab, off + k * 2 + 1, none⟩ = some (.int .i64 r.x) := by rw [hW2]; go_simp
    clear hW2 c0 c1 c2 c3 c4 c5 s0' s1' hc3 hf3 hc4 hf4 hS0 hS1 hS2
    go_region_held3 (fun w' => (∀ b o, b < W2.heap.size → w'.cell? ⟨b, o, none⟩ = W2.cell? ⟨b, o, none⟩) ∧ (∀ b o, b < W2.heap.size → w'.frozen? ⟨b, o, none⟩ = W2.frozen? ⟨b, o, none⟩) ∧ Below W2.heap.size W2 w') ((first | assumption | (refine kp_of ?_; (repeat' (first | assumption | exact below_refl _ | refine bl_alloc ?_ _ | refine Below.setCell ?_ ?_ _ | refine below_draw ?_ | refine below_drewN ?_ _ | refine below_tr ?_ (by assumption))) <;> (first | omega | (simp; done) | (simp; omega))))) ((first | (go_at_call 91; ((with_reducible refine (HP.out _).mono ?_); rintro e w5 ⟨rfl, hb5⟩; obtain ⟨hc5, hf5⟩ := bcell hb5; have hz5 := hb5.size; (try simp [sz_drew, sz_drewN] at hz5); (try simp only [sz_drew, sz_drewN] at hc5 hf5))) | (go_at_call 91; ((with_reducible refine (HQ.out _).mono ?_); rintro e w6 ⟨rfl, hb6⟩; obtain ⟨hc6, hf6⟩ := bcell hb6; have hz6 := hb6.size; (try simp [sz_drew, sz_drewN] at hz6); (try simp only [sz_drew, sz_drewN] at hc6 hf6))) | (go_at_call 91; ((with_reducible refine (HS.out _).mono ?_); rintro e w7 ⟨rfl, hb7⟩; obtain ⟨hc7, hf7⟩ := bcell hb7; have hz7 := hb7.size; (try simp [sz_drew, sz_drewN] at hz7); (try simp only [sz_drew, sz_drewN] at hc7 hf7)))))
    all_goals
      rcases HWW.out with ⟨t1, t2, t3, hB⟩ | ⟨t1, t2, t3, t4, hB⟩ | ⟨t1, t2, t3, hB⟩ | ⟨t1, t2, hB⟩ | ⟨t1, t2, t3, hB⟩ | ⟨t1, t2, t3, t4, hB⟩ | ⟨t1, t2, t3, t4, hB⟩
      all_goals
        have HB := Lib.hid hB
        clear hB HWW
        go_wp2
        go_ret
        exact ret_b HB.out.symm (by (repeat' (first | assumption | exact below_refl _ | refine bl_alloc ?_ _ | refine Below.setCell ?_ ?_ _ | refine below_draw ?_ | refine below_drewN ?_ _ | refine below_tr ?_ (by assumption))) <;> (first | omega | (simp; done) | (simp; omega)))
/-- what Proves says -/
def prvsL (x : Ln) (l : List Pt) (i j k : Int) : Bool :=
  vldL x.1 x.2.1 x.2.2 && (vldP l && (decide (0 ≤ i) && (decide (i < j) && (decide (j < k) && (decide (k < l.length) && prvB x l (i.toNat, j.toNat, k.toNat))))))
end Go.Proofs.Ytohbejdfaecghaa
