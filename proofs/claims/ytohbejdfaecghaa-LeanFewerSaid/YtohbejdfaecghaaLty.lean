/- Lean: the farthest point by the reference. -/
import Derived.Test.YtohbejdfaecghaaLtw
set_option linter.unusedSimpArgs false
set_option linter.unusedVariables false
namespace Go.Proofs.Ytohbejdfaecghaa
open Go.RowKit

set_option maxHeartbeats 2000000 in
set_option maxRecDepth 20000 in
theorem r_worst (a b d : Int) (A : Option Addr) (l : List Pt) (c : Nat) (w : World) (hl : LB a b d) (hs : ∀ p ∈ l, SP p) (hR : Rd Pt.cs 2 w A l) (h1 : 1 ≤ l.length) (hn : l.length ≤ 40) :
    Calls Try.prog 74 #[lineV a b d, .slice A l.length c] w fun e w' => e = .returned (.int .i64 (wst (a, b, d) l : Nat)) ∧ Below w.heap.size w w' := by
  have BX := Lib.hid (Blk.new w 30 #[.int .i64 a, .int .i64 b, .int .i64 d])
  go_enter Try.func74, Try.ntmps74
  go_wp2
  go_loopw [5, 6] (fun s i wr => ∃ k : Nat, k ≤ l.length ∧ i = .int .i64 k ∧ s = .int .i64 (wstN (a, b, d) l k : Nat) ∧ Below w.heap.size w wr ∧ Hid (Blk wr w.heap.size 30 #[.int .i64 a, .int .i64 b, .int .i64 d])) (fun _ i _ => l.length - (intOf i).toNat)
  case atStart => exact ⟨0, by omega, rfl, rfl, below_alloc _ _, BX⟩
  case round =>
    obtain ⟨k, hk, rfl, rfl, hB', HX⟩ := hrel
    by_cases hlt : k < l.length
    · obtain ⟨p, ab, off, hx, rfl, hab, c0, c1⟩ := rdP (hR.on hB') hlt
      have hw := wstN_lt' (x := (a, b, d)) hlt
      obtain ⟨q, ab', off', hy, he, _, d0, d1⟩ := rdP (hR.on hB') hw
      cases he
      have sp : SP p := hs p (List.mem_of_getElem? hx)
      have sq : SP q := hs q (List.mem_of_getElem? hy)
      have HS := Lib.hid (show wstN (a, b, d) l (k + 1) = if farV a b d q < farV a b d p then k else wstN (a, b, d) l k by
        rw [wstN, ptAt_of hx, ptAt_of hy])
      generalize wstN (a, b, d) l k = m at *
      have HP := Lib.hid (fun W => r_far a b d p W hl sp)
      have HQ := Lib.hid (fun W => r_far a b d q W hl sq)
      generalize farV a b d p = P at *
      generalize farV a b d q = Q at *
      have x0 : wr.cell? ⟨w.heap.size, 0, none⟩ = some (.int .i64 a) := HX.out.cell 0
      have x1 : wr.cell? ⟨w.heap.size, 1, none⟩ = some (.int .i64 b) := HX.out.cell 1
      have x2 : wr.cell? ⟨w.heap.size, 2, none⟩ = some (.int .i64 d) := HX.out.cell 2
      have xz : w.heap.size < wr.heap.size := HX.out.lt
      clear hx hy hs sp sq hl BX
      obtain ⟨bb, hbb⟩ : ∃ bb, decide (Q < P) = bb := ⟨_, rfl⟩
      have m1 : (0 : Int) ≤ (m : Int) := Int.natCast_nonneg _
      have m2 : (m : Int) < (l.length : Int) := by omega
      have k1 : (0 : Int) ≤ (k : Int) := Int.natCast_nonneg _
      have k2 : (k : Int) < (l.length : Int) := by omega
      go_wp2
      refine wp_region_noPanic ?_
      refine wp_region_held_drew (S := (fun w' => (∀ b o, b < wr.heap.size → w'.cell? ⟨b, o, none⟩ = wr.cell? ⟨b, o, none⟩) ∧ (∀ b o, b < wr.heap.size → w'.frozen? ⟨b, o, none⟩ = wr.frozen? ⟨b, o, none⟩) ∧ Below wr.heap.size wr w')) (by kernel_rfl) (kq_draw kq_refl) (fun hS0 => ?_)
      refine wpAnyH_take (i := 0) (oi := { dst := some 13, op := _, type := _, pos := _, after := _, guard := none }) (v := ?gv14) rfl (by kernel_rfl) (by kernel_rfl) (by kernel_rfl) (fun _ _ _ h => h) (Or.inl ⟨by rfl, ?gy14⟩) (by assumption) ?_
      case gy14 => (intro w' hSw; go_simp; try with_reducible rfl)
      try simp only [Act.put, List.setIfInBounds_toArray, List.set_cons_zero, List.set_cons_succ]
      refine wpAnyH_take (i := 1) (oi := { dst := some 14, op := _, type := _, pos := _, after := _, guard := none }) (v := ?gv15) rfl (by kernel_rfl) (by kernel_rfl) (by kernel_rfl) (fun _ _ _ h => h) (Or.inl ⟨by rfl, ?gy15⟩) (by assumption) ?_
      case gy15 => (intro w' hSw; go_simp; try with_reducible rfl)
      try simp only [Act.put, List.setIfInBounds_toArray, List.set_cons_zero, List.set_cons_succ]
      refine wpAnyH_take (i := 2) (oi := { dst := some 15, op := _, type := _, pos := _, after := _, guard := none }) (v := ?gv16) rfl (by kernel_rfl) (by kernel_rfl) (by kernel_rfl) (fun _ _ _ h => h) (Or.inl ⟨by rfl, ?gy16⟩) (by assumption) ?_
      case gy16 => (intro w' hSw; go_simp; try with_reducible rfl)
      try simp only [Act.put, List.setIfInBounds_toArray, List.set_cons_zero, List.set_cons_succ]
      refine wpAnyH_take (i := 3) (oi := { dst := some 16, op := _, type := _, pos := _, after := _, guard := none }) (v := ?gv17) rfl (by kernel_rfl) (by kernel_rfl) (by kernel_rfl) (fun _ _ _ h => h) (Or.inl ⟨by rfl, ?gy17⟩) (by assumption) ?_
      case gy17 => (intro w' hSw; go_simp; try with_reducible rfl)
      try simp only [Act.put, List.setIfInBounds_toArray, List.set_cons_zero, List.set_cons_succ]
      refine wpAnyH_take (i := 4) (oi := { dst := some 17, op := _, type := _, pos := _, after := _, guard := none }) (v := ?gv18) rfl (by kernel_rfl) (by kernel_rfl) (by kernel_rfl) (fun _ _ _ h => h) (Or.inl ⟨by rfl, ?gy18⟩) (by assumption) ?_
      case gy18 => (intro w' hSw; go_simp; try with_reducible rfl)
      try simp only [Act.put, List.setIfInBounds_toArray, List.set_cons_zero, List.set_cons_succ]
      refine wpAnyH_take (i := 6) (oi := { dst := some 19, op := _, type := _, pos := _, after := _, guard := none }) (v := ?gv19) rfl (by kernel_rfl) (by kernel_rfl) (by kernel_rfl) (fun _ _ _ h => h) (Or.inl ⟨by rfl, ?gy19⟩) (by assumption) ?_
      case gy19 => (intro w' hSw; go_simp; try with_reducible rfl)
      try simp only [Act.put, List.setIfInBounds_toArray, List.set_cons_zero, List.set_cons_succ]
      refine wpAnyH_take (i := 7) (oi := { dst := some 20, op := _, type := _, pos := _, after := _, guard := none }) (v := ?gv20) rfl (by kernel_rfl) (by kernel_rfl) (by kernel_rfl) (fun _ _ _ h => h) (Or.inl ⟨by rfl, ?gy20⟩) (by assumption) ?_
      case gy20 => (intro w' hSw; go_simp; try with_reducible rfl)
      try simp only [Act.put, List.setIfInBounds_toArray, List.set_cons_zero, List.set_cons_succ]
      refine wpAnyH_take (i := 8) (oi := { dst := some 21, op := _, type := _, pos := _, after := _, guard := none }) (v := ?gv21) rfl (by kernel_rfl) (by kernel_rfl) (by kernel_rfl) (fun _ _ _ h => h) (Or.inl ⟨by rfl, ?gy21⟩) (by assumption) ?_
      case gy21 => (intro w' hSw; go_simp; try with_reducible rfl)
      try simp only [Act.put, List.setIfInBounds_toArray, List.set_cons_zero, List.set_cons_succ]
      refine wpAnyH_take (i := 9) (oi := { dst := some 22, op := _, type := _, pos := _, after := _, guard := none }) (v := ?gv22) rfl (by kernel_rfl) (by kernel_rfl) (by kernel_rfl) (fun _ _ _ h => h) (Or.inl ⟨by rfl, ?gy22⟩) (by assumption) ?_
      case gy22 => (intro w' hSw; go_simp; try with_reducible rfl)
      try simp only [Act.put, List.setIfInBounds_toArray, List.set_cons_zero, List.set_cons_succ]
      refine wpAnyH_take (i := 10) (oi := { dst := some 23, op := _, type := _, pos := _, after := _, guard := none }) (v := ?gv23) rfl (by kernel_rfl) (by kernel_rfl) (by kernel_rfl) (fun _ _ _ h => h) (Or.inl ⟨by rfl, ?gy23⟩) (by assumption) ?_
      case gy23 => (intro w' hSw; go_simp; try with_reducible rfl)
      try simp only [Act.put, List.setIfInBounds_toArray, List.set_cons_zero, List.set_cons_succ]
      refine wpAnyH_ready (rs := [5]) (by kernel_rfl) (by simp) ?_
      refine AllReadyH.cons rfl (fun K hK => ?_) AllReadyH.nil
      go_simp
      (go_at_call 72; ((with_reducible refine (HP.out _).mono ?_); rintro e w3 ⟨rfl, hb3⟩; obtain ⟨hc3, hf3⟩ := bcell hb3; have hz3 := hb3.size; (try simp [sz_drew, sz_drewN] at hz3); (try simp only [sz_drew, sz_drewN] at hc3 hf3)))
      refine hK.out _ _ (by ((show Kq wr _); (repeat' (first | assumption | exact kq_refl | refine kq_draw ?_ | refine kq_drewN ?_ | refine kq_alloc ?_ | refine kq_set ?_ ?_ | refine kq_step ?_ (by assumption))); (all_goals (first | omega | (simp; omega))))) (fun hS1 => ?_)
      clear hK K
      try simp only [Act.put, List.setIfInBounds_toArray, List.set_cons_zero, List.set_cons_succ]
      refine wpAnyH_ready (rs := [11]) (by kernel_rfl) (by simp) ?_
      refine AllReadyH.cons rfl (fun K hK => ?_) AllReadyH.nil
      go_simp
      (go_at_call 72; ((with_reducible refine (HQ.out _).mono ?_); rintro e w4 ⟨rfl, hb4⟩; obtain ⟨hc4, hf4⟩ := bcell hb4; have hz4 := hb4.size; (try simp [sz_drew, sz_drewN] at hz4); (try simp only [sz_drew, sz_drewN] at hc4 hf4)))
      refine hK.out _ _ (by ((show Kq wr _); (repeat' (first | assumption | exact kq_refl | refine kq_draw ?_ | refine kq_drewN ?_ | refine kq_alloc ?_ | refine kq_set ?_ ?_ | refine kq_step ?_ (by assumption))); (all_goals (first | omega | (simp; omega))))) (fun hS2 => ?_)
      clear hK K
      try simp only [Act.put, List.setIfInBounds_toArray, List.set_cons_zero, List.set_cons_succ]
      refine wpAnyH_take (i := 12) (oi := { dst := some 25, op := _, type := _, pos := _, after := _, guard := none }) (v := .bool bb) rfl (by kernel_rfl) (by kernel_rfl) (by kernel_rfl) (fun _ _ _ h => h) (Or.inl ⟨by rfl, ?gy24⟩) (by assumption) ?_
      case gy24 => (intro w' hSw; go_simp)
      try simp only [Act.put, List.setIfInBounds_toArray, List.set_cons_zero, List.set_cons_succ]
      refine wpAnyH_done (by kernel_rfl) (NoPanic.normal ?_) _
      have HB := Lib.hid hbb
      clear hbb
      cases bb
      all_goals
        go_wp2
        go_roundw
        case rel => exact ⟨k + 1, by omega, by go_num, by first | rw [HS.out, if_pos (of_decide_eq_true HB.out)] | rw [HS.out, if_neg (of_decide_eq_false HB.out)], below_tr hB' hS2.2.2, Lib.hid (kq_blk hS2 HX.out)⟩
        case measure => simp [intOf]; omega
    · obtain rfl : k = l.length := by omega
      go_wp2
      go_ret
      exact ⟨rfl, hB'⟩
end Go.Proofs.Ytohbejdfaecghaa
