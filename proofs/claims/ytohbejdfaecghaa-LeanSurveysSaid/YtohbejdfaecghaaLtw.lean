/- Lean: the point that is farthest off; by both. -/
import Derived.Test.YtohbejdfaecghaaLtk
import Derived.Test.YtohbejdfaecghaaLpl
import Derived.Outline
set_option linter.unusedSimpArgs false
set_option linter.unusedVariables false
namespace Go.Proofs.Ytohbejdfaecghaa
open Go.RowKit

theorem far_bd {a b d : Int} {p : Pt} (hl : LB a b d) (hp : SP p) : 0 ≤ farV a b d p ∧ farV a b d p ≤ 310000000000000000 := by
  obtain ⟨m0, m1, n0, n1, o0, o1⟩ := ob_of hl hp
  unfold farV; omega
set_option maxHeartbeats 1000000 in
set_option maxRecDepth 20000 in
theorem p_worst1 {W w : World} (a b d : Int) (p : Pt) (bx : Nat) (hS : Kq W w) (hB : Blk W bx 30 #[.int .i64 a, .int .i64 b, .int .i64 d]) (hl : LB a b d) (hp : SP p) :
    Calls Try.prog 92 #[.agg #[.int .i64 p.h, .int .i64 p.x], .pointer (some ⟨bx, 0, none⟩)] w fun e w' => e = .returned (.int .i64 (farV a b d p)) ∧ Below w.heap.size w w' := by
  have hB' := kq_blk hS hB
  clear hS hB
  have c0 : w.cell? ⟨bx, 0, none⟩ = some (.int .i64 a) := hB'.cell 0
  have c1 : w.cell? ⟨bx, 1, none⟩ = some (.int .i64 b) := hB'.cell 1
  have c2 : w.cell? ⟨bx, 2, none⟩ = some (.int .i64 d) := hB'.cell 2
  obtain ⟨m0, m1, n0, n1, o0, o1⟩ := ob_of hl hp
  have H0 := Lib.hid (fun W => p_off a b d p W hl hp)
  unfold farV
  generalize offV a b d p = O at *
  have hbx : bx < w.heap.size := hB'.lt
  have hbx' : bx ≠ w.heap.size := by omega
  clear m0 m1 n0 n1 hl hp hB'
  have e1 : IntKind.i64.wrap (-O) = -O := fits_wrap ⟨by omega, by omega⟩
  rcases (by omega : (O < -O ∧ (O.natAbs : Int) = -O) ∨ (-O ≤ O ∧ (O.natAbs : Int) = O)) with ⟨hm, he⟩ | ⟨hm, he⟩
  all_goals
    rw [he]
    clear he
    go_enter Try.func92, Try.ntmps92
    go_wp2_with (go_at_call 63; ((with_reducible refine (H0.out _).mono ?_); rintro e w1 ⟨rfl, hb1⟩; obtain ⟨hc1, hf1⟩ := bcell hb1; have hz1 := hb1.size; (try simp [sz_drew, sz_drewN] at hz1); (try simp only [sz_drew, sz_drewN] at hc1 hf1); have z1_0 : w.heap.size < w1.heap.size := (by omega)))
    go_ret
    exact ⟨rfl, by (repeat' (first | assumption | exact below_refl _ | refine bl_alloc ?_ _ | refine Below.setCell ?_ ?_ _ | refine below_draw ?_ | refine below_drewN ?_ _ | refine below_tr ?_ (by assumption))) <;> (first | omega | (simp; done) | (simp; omega))⟩

theorem wstN_lt' {x : Ln} {l : List Pt} {k : Nat} (hk : k < l.length) : wstN x l k < l.length := by
  cases k with
  | zero => exact hk
  | succ k => have := wstN_lt x l k; omega
set_option maxHeartbeats 2000000 in
set_option maxRecDepth 20000 in
theorem p_greatest (a b d : Int) (A : Option Addr) (l : List Pt) (c : Nat) (bx : Nat) (w : World) (hB : Blk w bx 30 #[.int .i64 a, .int .i64 b, .int .i64 d]) (hl : LB a b d) (hs : ∀ p ∈ l, SP p) (hR : Rd Pt.cs 2 w A l) (h1 : 1 ≤ l.length) (hn : l.length ≤ 40) :
    Calls Try.prog 93 #[.slice A l.length c, .func (.func 92) #[] #[.pointer (some ⟨bx, 0, none⟩)]] w fun e w' => e = .returned (.int .i64 (wst (a, b, d) l : Nat)) ∧ Below w.heap.size w w' := by
  go_enter Try.func93, Try.ntmps93
  go_wp2
  go_loopw [5, 10] (fun s i wr => ∃ k : Nat, k ≤ l.length ∧ i = .int .i64 k ∧ s = .int .i64 (wstN (a, b, d) l k : Nat) ∧ Below w.heap.size w wr) (fun _ i _ => l.length - (intOf i).toNat)
  case atStart => exact ⟨0, by omega, rfl, rfl, Below.refl _ _⟩
  case round =>
    obtain ⟨k, hk, rfl, rfl, hB'⟩ := hrel
    by_cases hlt : k < l.length
    · obtain ⟨p, ab, off, hx, rfl, hab, c0, c1⟩ := rdP (hR.on hB') hlt
      have hw := wstN_lt' (x := (a, b, d)) hlt
      obtain ⟨q, ab', off', hy, he, _, d0, d1⟩ := rdP (hR.on hB') hw
      cases he
      have sp : SP p := hs p (List.mem_of_getElem? hx)
      have sq : SP q := hs q (List.mem_of_getElem? hy)
      have HS := Lib.hid (show wstN (a, b, d) l (k + 1) = if farV a b d q < farV a b d p then k else wstN (a, b, d) l k by
        rw [wstN, ptAt_of hx, ptAt_of hy])
      generalize wstN (a, b, d) l k = m at *
      have HP := Lib.hid (fun (W w : World) (hS : Kq W w) hB => p_worst1 a b d p bx hS hB hl sp)
      have HQ := Lib.hid (fun (W w : World) (hS : Kq W w) hB => p_worst1 a b d q bx hS hB hl sq)
      generalize farV a b d p = P at *
      generalize farV a b d q = Q at *
      have BX := hB.below hB' hB.lt
      clear hx hy hs sp sq hB hl
      obtain ⟨bb, hbb⟩ : ∃ bb, decide (Q < P) = bb := ⟨_, rfl⟩
      ·
        go_wp2
        refine wp_world ?_
        intro W1 hW1
        have bW : Below wr.heap.size wr W1 := by rw [hW1]; (repeat' (first | assumption | exact below_refl _ | refine bl_alloc ?_ _ | refine Below.setCell ?_ ?_ _ | refine below_draw ?_ | refine below_drewN ?_ _ | refine below_tr ?_ (by assumption))) <;> (first | omega | (simp; done) | (simp; omega))
        have BX' := BX.below bW BX.lt
        have g0 : W1.cell? ⟨wr.heap.size, 0, none⟩ = some (.int .i64 p.h) := by rw [hW1]; go_simp
        have g1 : W1.cell? ⟨wr.heap.size, 1, none⟩ = some (.int .i64 p.x) := by rw [hW1]; go_simp
        have gz : wr.heap.size < W1.heap.size := by rw [hW1]; simp
        have c0' : W1.cell? ⟨ab, off + m * 2, none⟩ = some (.int .i64 q.h) := by rw [(bcell bW).1 _ _ hab]; exact d0
        have c1' : W1.cell? ⟨ab, off + m * 2 + 1, none⟩ = some (.int .i64 q.x) := by rw [(bcell bW).1 _ _ hab]; exact d1
        have hab' : ab < W1.heap.size := Nat.lt_of_lt_of_le hab bW.size
        have m1 : (0 : Int) ≤ (m : Int) := Int.natCast_nonneg _
        have m2 : (m : Int) < (l.length : Int) := by omega
        clear hW1 c0 c1 d0 d1
        refine wp_region_noPanic ?_
        refine wp_region_held_drew (S := (fun w' => (∀ b o, b < W1.heap.size → w'.cell? ⟨b, o, none⟩ = W1.cell? ⟨b, o, none⟩) ∧ (∀ b o, b < W1.heap.size → w'.frozen? ⟨b, o, none⟩ = W1.frozen? ⟨b, o, none⟩) ∧ Below W1.heap.size W1 w')) (by kernel_rfl) (kq_draw kq_refl) (fun hS0 => ?_)
        refine wpAnyH_take (i := 0) (oi := { dst := some 15, op := _, type := _, pos := _, after := _, guard := none }) (v := ?gv6) rfl (by kernel_rfl) (by kernel_rfl) (by kernel_rfl) (fun _ _ _ h => h) (Or.inl ⟨by rfl, ?gy6⟩) (by assumption) ?_
        case gy6 => (intro w' hSw; go_simp; try with_reducible rfl)
        try simp only [Act.put, List.setIfInBounds_toArray, List.set_cons_zero, List.set_cons_succ]
        refine wpAnyH_take (i := 1) (oi := { dst := some 16, op := _, type := _, pos := _, after := _, guard := none }) (v := ?gv7) rfl (by kernel_rfl) (by kernel_rfl) (by kernel_rfl) (fun _ _ _ h => h) (Or.inl ⟨by rfl, ?gy7⟩) (by assumption) ?_
        case gy7 => (intro w' hSw; go_simp; try with_reducible rfl)
        try simp only [Act.put, List.setIfInBounds_toArray, List.set_cons_zero, List.set_cons_succ]
        refine wpAnyH_take (i := 3) (oi := { dst := some 18, op := _, type := _, pos := _, after := _, guard := none }) (v := ?gv8) rfl (by kernel_rfl) (by kernel_rfl) (by kernel_rfl) (fun _ _ _ h => h) (Or.inl ⟨by rfl, ?gy8⟩) (by assumption) ?_
        case gy8 => (intro w' hSw; go_simp; try with_reducible rfl)
        try simp only [Act.put, List.setIfInBounds_toArray, List.set_cons_zero, List.set_cons_succ]
        refine wpAnyH_take (i := 4) (oi := { dst := some 19, op := _, type := _, pos := _, after := _, guard := none }) (v := ?gv9) rfl (by kernel_rfl) (by kernel_rfl) (by kernel_rfl) (fun _ _ _ h => h) (Or.inl ⟨by rfl, ?gy9⟩) (by assumption) ?_
        case gy9 => (intro w' hSw; go_simp; try with_reducible rfl)
        try simp only [Act.put, List.setIfInBounds_toArray, List.set_cons_zero, List.set_cons_succ]
        refine wpAnyH_take (i := 5) (oi := { dst := some 20, op := _, type := _, pos := _, after := _, guard := none }) (v := ?gv10) rfl (by kernel_rfl) (by kernel_rfl) (by kernel_rfl) (fun _ _ _ h => h) (Or.inl ⟨by rfl, ?gy10⟩) (by assumption) ?_
        case gy10 => (intro w' hSw; go_simp; try with_reducible rfl)
        try simp only [Act.put, List.setIfInBounds_toArray, List.set_cons_zero, List.set_cons_succ]
        refine wpAnyH_take (i := 6) (oi := { dst := some 21, op := _, type := _, pos := _, after := _, guard := none }) (v := ?gv11) rfl (by kernel_rfl) (by kernel_rfl) (by kernel_rfl) (fun _ _ _ h => h) (Or.inl ⟨by rfl, ?gy11⟩) (by assumption) ?_
        case gy11 => (intro w' hSw; go_simp; try with_reducible rfl)
        try simp only [Act.put, List.setIfInBounds_toArray, List.set_cons_zero, List.set_cons_succ]
        refine wpAnyH_take (i := 7) (oi := { dst := some 22, op := _, type := _, pos := _, after := _, guard := none }) (v := ?gv12) rfl (by kernel_rfl) (by kernel_rfl) (by kernel_rfl) (fun _ _ _ h => h) (Or.inl ⟨by rfl, ?gy12⟩) (by assumption) ?_
        case gy12 => (intro w' hSw; go_simp; try with_reducible rfl)
        try simp only [Act.put, List.setIfInBounds_toArray, List.set_cons_zero, List.set_cons_succ]
        refine wpAnyH_ready (rs := [2]) (by kernel_rfl) (by simp) ?_
        refine AllReadyH.cons rfl (fun K hK => ?_) AllReadyH.nil
        go_simp
        (go_at_call 92; ((with_reducible refine (HP.out W1 _ (by assumption) BX').mono ?_); rintro e w3 ⟨rfl, hb3⟩; obtain ⟨hc3, hf3⟩ := bcell hb3; have hz3 := hb3.size; (try simp [sz_drew, sz_drewN] at hz3); (try simp only [sz_drew, sz_drewN] at hc3 hf3)))
        refine hK.out _ _ (by ((show Kq W1 _); (repeat' (first | assumption | exact kq_refl | refine kq_draw ?_ | refine kq_drewN ?_ | refine kq_alloc ?_ | refine kq_set ?_ ?_ | refine kq_step ?_ (by assumption))); (all_goals (first | omega | (simp; omega))))) (fun hS1 => ?_)
        clear hK K
        try simp only [Act.put, List.setIfInBounds_toArray, List.set_cons_zero, List.set_cons_succ]
        refine wpAnyH_ready (rs := [8]) (by kernel_rfl) (by simp) ?_
        refine AllReadyH.cons rfl (fun K hK => ?_) AllReadyH.nil
        go_simp
        (go_at_call 92; ((with_reducible refine (HQ.out W1 _ (by assumption) BX').mono ?_); rintro e w4 ⟨rfl, hb4⟩; obtain ⟨hc4, hf4⟩ := bcell hb4; have hz4 := hb4.size; (try simp [sz_drew, sz_drewN] at hz4); (try simp only [sz_drew, sz_drewN] at hc4 hf4)))
        refine hK.out _ _ (by ((show Kq W1 _); (repeat' (first | assumption | exact kq_refl | refine kq_draw ?_ | refine kq_drewN ?_ | refine kq_alloc ?_ | refine kq_set ?_ ?_ | refine kq_step ?_ (by assumption))); (all_goals (first | omega | (simp; omega))))) (fun hS2 => ?_)
        clear hK K
        try simp only [Act.put, List.setIfInBounds_toArray, List.set_cons_zero, List.set_cons_succ]
        refine wpAnyH_take (i := 9) (oi := { dst := some 24, op := _, type := _, pos := _, after := _, guard := none }) (v := .bool bb) rfl (by kernel_rfl) (by kernel_rfl) (by kernel_rfl) (fun _ _ _ h => h) (Or.inl ⟨by rfl, ?gy13⟩) (by assumption) ?_
        case gy13 => (intro w' hSw; go_simp)
        try simp only [Act.put, List.setIfInBounds_toArray, List.set_cons_zero, List.set_cons_succ]
        refine wpAnyH_done (by kernel_rfl) (NoPanic.normal ?_) _
        have HB := Lib.hid hbb
        clear hbb
        cases bb
        all_goals
          go_wp2
          go_roundw
          case rel => exact ⟨k + 1, by omega, by go_num, by first | rw [HS.out, if_pos (of_decide_eq_true HB.out)] | rw [HS.out, if_neg (of_decide_eq_false HB.out)], below_tr (below_tr hB' bW) hS2.2.2⟩
          case measure => simp [intOf]; omega
    · obtain rfl : k = l.length := by omega
      go_wp2
      go_ret
      exact ⟨rfl, hB'⟩
end Go.Proofs.Ytohbejdfaecghaa
