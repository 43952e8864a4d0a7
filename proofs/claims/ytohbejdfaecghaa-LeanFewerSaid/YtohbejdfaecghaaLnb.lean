/- Lean: the narrowest strip by the reference. -/
import Derived.Test.YtohbejdfaecghaaLpm
set_option linter.unusedSimpArgs false
set_option linter.unusedVariables false
namespace Go.Proofs.Ytohbejdfaecghaa
open Go.RowKit

abbrev spV (s : Sp) : Value := .agg #[.int .i64 s.1, .int .i64 s.2.1, .int .i64 s.2.2.1, .int .i64 s.2.2.2]
abbrev spC (s : Sp) : Array Value := #[.int .i64 s.1, .int .i64 s.2.1, .int .i64 s.2.2.1, .int .i64 s.2.2.2]
theorem load_sp {W : World} {b : Nat} {x y z u : Value} (h : Blk W b 93 #[x, y, z, u]) : (loadVar 93 ⟨b, 0, none⟩).run Try.prog W = .ok (.agg #[x, y, z, u]) W := by
  have c0 := h.cell 0
  have c1 := h.cell 1
  have c2 := h.cell 2
  have c3 := h.cell 3
  simp only [List.getElem?_toArray, List.getElem?_cons_zero, List.getElem?_cons_succ] at c0 c1 c2 c3
  go_simp
theorem blk4 {W : World} {g : Nat} {t : TypeId} {a b c d : Value} (h : Blk W g t #[a, b, c, d]) : W.cell? ⟨g, 0, none⟩ = some a ∧ W.cell? ⟨g, 1, none⟩ = some b ∧ W.cell? ⟨g, 2, none⟩ = some c ∧ W.cell? ⟨g, 3, none⟩ = some d ∧ W.frozen? ⟨g, 0, none⟩ = false ∧ W.frozen? ⟨g, 1, none⟩ = false ∧ W.frozen? ⟨g, 2, none⟩ = false ∧ W.frozen? ⟨g, 3, none⟩ = false :=
  ⟨h.cell 0, h.cell 1, h.cell 2, h.cell 3, h.frozen 0, h.frozen 1, h.frozen 2, h.frozen 3⟩
theorem vld_lt' {l : List Pt} (h : Hid (vldP l = true)) (i j : Nat) (hij : i < j) (hj : j < l.length) : (ptAt l i).h < (ptAt l j).h := vld_lt h.out i j hij hj
set_option maxHeartbeats 4000000 in
set_option maxRecDepth 20000 in
theorem r_narrowest (A : Option Addr) (l : List Pt) (c : Nat) (w : World) (hv : vldP l = true) (hR : Rd Pt.cs 2 w A l) :
    Calls Try.prog 81 #[.slice A l.length c] w fun e w' => e = .returned (spV (narS l)) ∧ Below w.heap.size w w' := by
  have hs := vld_sp hv
  have hvv := Lib.hid hv
  obtain ⟨n1, n2⟩ := vld_len hv
  have B0 := (Blk.new w 93 #[.int .i64 0, .int .i64 0, .int .i64 0, .int .i64 0]).alloc (.cells #[.int .i64 0, .int .i64 0, .int .i64 0, .int .i64 0] 93)
  have B1 := blk_second w (.cells #[.int .i64 0, .int .i64 0, .int .i64 0, .int .i64 0] 93) 93 #[.int .i64 0, .int .i64 0, .int .i64 0, .int .i64 0]
  have B0 := Lib.hid B0
  have B1 := Lib.hid B1
  clear hv
  go_enter Try.func81, Try.ntmps81
  go_wp2
  go_loopw [4] (fun i wr => ∃ a : Nat, a ≤ l.length ∧ i = .int .i64 a ∧ Below w.heap.size w wr ∧ Hid (Blk wr w.heap.size 93 #[.int .i64 0, .int .i64 0, .int .i64 0, .int .i64 0]) ∧ Hid (Blk wr (w.heap.size + 1) 93 (spC (spO l a)))) (fun i _ => l.length - (intOf i).toNat)
  case atStart => exact ⟨0, by omega, rfl, below_tr (below_alloc _ _) (below_alloc _ _), B0, B1⟩
  case round =>
    obtain ⟨a, ha, rfl, hB, C0, C1⟩ := hrel
    obtain ⟨wo, rfl⟩ : ∃ wo : World, wo = wr := ⟨_, rfl⟩
    by_cases hlt : a < l.length
    · obtain ⟨p, ab, off, hx, rfl, hab, c0, c1⟩ := rdP (hR.on hB) hlt
      have hbo := spO_b hs a (by omega)
      have HP := Lib.hid (ptAt_of hx)
      clear c0 c1 hx
      go_wp2
      go_loopw [5] (fun i wr => ∃ m : Nat, a + 1 + m ≤ l.length ∧ i = .int .i64 ((a + 1 + m : Nat) : Int) ∧ Below w.heap.size w wr ∧ Hid (Blk wr w.heap.size 93 #[.int .i64 0, .int .i64 0, .int .i64 0, .int .i64 0]) ∧ Hid (Blk wr (w.heap.size + 1) 93 (spC (spI l a (spO l a) m)))) (fun i _ => l.length - (intOf i).toNat)
      case atStart => exact ⟨0, by omega, by go_num, hB, C0, C1⟩
      case round =>
        obtain ⟨m, hm, rfl, hB2, D0, D1⟩ := hrel
        obtain ⟨wp, rfl⟩ : ∃ wp : World, wp = wr := ⟨_, rfl⟩
        by_cases hlt2 : a + 1 + m < l.length
        · obtain ⟨p', _, _, hx, he, hab2, c0, c1⟩ := rdP (hR.on hB2) hlt
          cases he
          obtain ⟨q, _, _, hy, he, _, d0, d1⟩ := rdP (hR.on hB2) hlt2
          cases he
          obtain rfl : p = p' := by rw [← HP.out, ptAt_of hx]
          have HQ := Lib.hid (ptAt_of hy)
          obtain ⟨v0, v1, v2, v3⟩ := bP_bd hs hlt hlt2
          have hbi := spI_b hs hbo (i := a) m (by omega)
          have eb : bP l a (a + 1 + m) = q.x - p.x := by unfold bP; rw [HP.out, HQ.out]
          have ed : dP l a (a + 1 + m) = q.h - p.h := by unfold dP; rw [HP.out, HQ.out]
          have HSI := Lib.hid (show spI l a (spO l a) (m + 1) = spStep l (spI l a (spO l a) m) a (a + 1 + m) from rfl)
          have hd0 : 0 < dP l a (a + 1 + m) := by have := vld_lt' hvv a (a + 1 + m) (by omega) hlt2; unfold dP; omega
          have hsp : spOf l a (a + 1 + m) = (bP l a (a + 1 + m), dP l a (a + 1 + m), loN l (bP l a (a + 1 + m)) (dP l a (a + 1 + m)) l.length, hiN l (bP l a (a + 1 + m)) (dP l a (a + 1 + m)) l.length) := rfl
          have e1 : IntKind.i64.wrap (q.x - p.x) = q.x - p.x := fits_wrap ⟨by omega, by omega⟩
          have e2 : IntKind.i64.wrap (q.h - p.h) = q.h - p.h := fits_wrap ⟨by omega, by omega⟩
          have k1 : (0 : Int) ≤ (a : Int) := Int.natCast_nonneg _
          have k2 : (a : Int) < (l.length : Int) := by omega
          have k3 : (0 : Int) ≤ ((a + 1 + m : Nat) : Int) := Int.natCast_nonneg _
          have k4 : ((a + 1 + m : Nat) : Int) < (l.length : Int) := by omega
          have HK : ((a + 1 + m : Nat) : Int) + 1 = ((a + 1 + (m + 1) : Nat) : Int) := by omega
          have HK := Lib.hid HK
          have hkk := hlt2
          generalize a + 1 + m = K at *
          generalize spI l a (spO l a) m = S at *
          obtain ⟨sb, sd, sl, sh⟩ := S
          obtain ⟨sb0, sb1, sd0, sd1, sl0, sl1, sh0, sh1⟩ := hbi
          dsimp only at sb0 sb1 sd0 sd1 sl0 sl1 sh0 sh1 D1
          rw [eb, ed] at hsp
          rw [ed] at hd0
          rw [eb] at v0 v1
          rw [ed] at v2 v3
          have vbd := fun (k : Nat) (hk : k < l.length) => vS_bd hs (b := q.x - p.x) (d := q.h - p.h) ⟨v0, v1⟩ ⟨v2, v3⟩ hk
          have lbd := fun (k : Nat) (hk : k ≤ l.length) => loN_bd hs (b := q.x - p.x) (d := q.h - p.h) ⟨v0, v1⟩ ⟨v2, v3⟩ hk
          have hbd := fun (k : Nat) (hk : k ≤ l.length) => hiN_bd hs (b := q.x - p.x) (d := q.h - p.h) ⟨v0, v1⟩ ⟨v2, v3⟩ hk
          have VB := Lib.hid vbd
          have LB' := Lib.hid lbd
          have HB' := Lib.hid hbd
          have HSP := Lib.hid hsp
          clear vbd lbd hbd hsp eb ed hx hy hbo
          go_wp2
          refine wp_region_noPanic ?_
          refine wp_region_held_drew (S := (fun w' => (∀ b o, b < wp.heap.size → w'.cell? ⟨b, o, none⟩ = wp.cell? ⟨b, o, none⟩) ∧ (∀ b o, b < wp.heap.size → w'.frozen? ⟨b, o, none⟩ = wp.frozen? ⟨b, o, none⟩) ∧ Below wp.heap.size wp w')) (by kernel_rfl) (kq_draw kq_refl) (fun hS0 => ?_)
          refine wpAnyH_take (i := 0) (oi := { dst := some 23, op := _, type := _, pos := _, after := _, guard := none }) (v := ?gv1) rfl (by kernel_rfl) (by kernel_rfl) (by kernel_rfl) (fun _ _ _ h => h) (Or.inl ⟨by rfl, ?gy1⟩) (by assumption) ?_
          case gy1 => (intro w' hSw; go_simp; try with_reducible rfl)
          try simp only [Act.put, List.setIfInBounds_toArray, List.set_cons_zero, List.set_cons_succ]
          refine wpAnyH_take (i := 1) (oi := { dst := some 24, op := _, type := _, pos := _, after := _, guard := none }) (v := ?gv2) rfl (by kernel_rfl) (by kernel_rfl) (by kernel_rfl) (fun _ _ _ h => h) (Or.inl ⟨by rfl, ?gy2⟩) (by assumption) ?_
          case gy2 => (intro w' hSw; go_simp; try with_reducible rfl)
          try simp only [Act.put, List.setIfInBounds_toArray, List.set_cons_zero, List.set_cons_succ]
          refine wpAnyH_take (i := 2) (oi := { dst := some 25, op := _, type := _, pos := _, after := _, guard := none }) (v := ?gv3) rfl (by kernel_rfl) (by kernel_rfl) (by kernel_rfl) (fun _ _ _ h => h) (Or.inl ⟨by rfl, ?gy3⟩) (by assumption) ?_
          case gy3 => (intro w' hSw; go_simp; try with_reducible rfl)
          try simp only [Act.put, List.setIfInBounds_toArray, List.set_cons_zero, List.set_cons_succ]
          refine wpAnyH_take (i := 3) (oi := { dst := some 26, op := _, type := _, pos := _, after := _, guard := none }) (v := ?gv4) rfl (by kernel_rfl) (by kernel_rfl) (by kernel_rfl) (fun _ _ _ h => h) (Or.inl ⟨by rfl, ?gy4⟩) (by assumption) ?_
          case gy4 => (intro w' hSw; go_simp; try with_reducible rfl)
          try simp only [Act.put, List.setIfInBounds_toArray, List.set_cons_zero, List.set_cons_succ]
          refine wpAnyH_take (i := 4) (oi := { dst := some 27, op := _, type := _, pos := _, after := _, guard := none }) (v := ?gv5) rfl (by kernel_rfl) (by kernel_rfl) (by kernel_rfl) (fun _ _ _ h => h) (Or.inl ⟨by rfl, ?gy5⟩) (by assumption) ?_
          case gy5 => (intro w' hSw; go_simp; try with_reducible rfl)
          try simp only [Act.put, List.setIfInBounds_toArray, List.set_cons_zero, List.set_cons_succ]
          refine wpAnyH_take (i := 5) (oi := { dst := some 28, op := _, type := _, pos := _, after := _, guard := none }) (v := ?gv6) rfl (by kernel_rfl) (by kernel_rfl) (by kernel_rfl) (fun _ _ _ h => h) (Or.inl ⟨by rfl, ?gy6⟩) (by assumption) ?_
          case gy6 => (intro w' hSw; go_simp; try with_reducible rfl)
          try simp only [Act.put, List.setIfInBounds_toArray, List.set_cons_zero, List.set_cons_succ]
          refine wpAnyH_take (i := 6) (oi := { dst := some 29, op := _, type := _, pos := _, after := _, guard := none }) (v := ?gv7) rfl (by kernel_rfl) (by kernel_rfl) (by kernel_rfl) (fun _ _ _ h => h) (Or.inl ⟨by rfl, ?gy7⟩) (by assumption) ?_
          case gy7 => (intro w' hSw; go_simp; try with_reducible rfl)
          try simp only [Act.put, List.setIfInBounds_toArray, List.set_cons_zero, List.set_cons_succ]
          refine wpAnyH_take (i := 7) (oi := { dst := some 30, op := _, type := _, pos := _, after := _, guard := none }) (v := ?gv8) rfl (by kernel_rfl) (by kernel_rfl) (by kernel_rfl) (fun _ _ _ h => h) (Or.inl ⟨by rfl, ?gy8⟩) (by assumption) ?_
          case gy8 => (intro w' hSw; go_simp; try with_reducible rfl)
          try simp only [Act.put, List.setIfInBounds_toArray, List.set_cons_zero, List.set_cons_succ]
          refine wpAnyH_take (i := 8) (oi := { dst := some 31, op := _, type := _, pos := _, after := _, guard := none }) (v := ?gv9) rfl (by kernel_rfl) (by kernel_rfl) (by kernel_rfl) (fun _ _ _ h => h) (Or.inl ⟨by rfl, ?gy9⟩) (by assumption) ?_
          case gy9 => (intro w' hSw; go_simp; try with_reducible rfl)
          try simp only [Act.put, List.setIfInBounds_toArray, List.set_cons_zero, List.set_cons_succ]
          refine wpAnyH_take (i := 9) (oi := { dst := some 32, op := _, type := _, pos := _, after := _, guard := none }) (v := ?gv10) rfl (by kernel_rfl) (by kernel_rfl) (by kernel_rfl) (fun _ _ _ h => h) (Or.inl ⟨by rfl, ?gy10⟩) (by assumption) ?_
          case gy10 => (intro w' hSw; go_simp; try with_reducible rfl)
          try simp only [Act.put, List.setIfInBounds_toArray, List.set_cons_zero, List.set_cons_succ]
          refine wpAnyH_take (i := 10) (oi := { dst := some 33, op := _, type := _, pos := _, after := _, guard := none }) (v := ?gv11) rfl (by kernel_rfl) (by kernel_rfl) (by kernel_rfl) (fun _ _ _ h => h) (Or.inl ⟨by rfl, ?gy11⟩) (by assumption) ?_
          case gy11 => (intro w' hSw; go_simp; try with_reducible rfl)
          try simp only [Act.put, List.setIfInBounds_toArray, List.set_cons_zero, List.set_cons_succ]
          refine wpAnyH_take (i := 11) (oi := { dst := some 34, op := _, type := _, pos := _, after := _, guard := none }) (v := ?gv12) rfl (by kernel_rfl) (by kernel_rfl) (by kernel_rfl) (fun _ _ _ h => h) (Or.inl ⟨by rfl, ?gy12⟩) (by assumption) ?_
          case gy12 => (intro w' hSw; go_simp; try with_reducible rfl)
          try simp only [Act.put, List.setIfInBounds_toArray, List.set_cons_zero, List.set_cons_succ]
          refine wpAnyH_take (i := 12) (oi := { dst := some 35, op := _, type := _, pos := _, after := _, guard := none }) (v := ?gv13) rfl (by kernel_rfl) (by kernel_rfl) (by kernel_rfl) (fun _ _ _ h => h) (Or.inl ⟨by rfl, ?gy13⟩) (by assumption) ?_
          case gy13 => (intro w' hSw; go_simp; try with_reducible rfl)
          try simp only [Act.put, List.setIfInBounds_toArray, List.set_cons_zero, List.set_cons_succ]
          refine wpAnyH_take (i := 13) (oi := { dst := some 36, op := _, type := _, pos := _, after := _, guard := none }) (v := ?gv14) rfl (by kernel_rfl) (by kernel_rfl) (by kernel_rfl) (fun _ _ _ h => h) (Or.inl ⟨by rfl, ?gy14⟩) (by assumption) ?_
          case gy14 => (intro w' hSw; go_simp; try with_reducible rfl)
          try simp only [Act.put, List.setIfInBounds_toArray, List.set_cons_zero, List.set_cons_succ]
          refine wpAnyH_take (i := 14) (oi := { dst := some 37, op := _, type := _, pos := _, after := _, guard := none }) (v := ?gv15) rfl (by kernel_rfl) (by kernel_rfl) (by kernel_rfl) (fun _ _ _ h => h) (Or.inl ⟨by rfl, ?gy15⟩) (by assumption) ?_
          case gy15 => (intro w' hSw; go_simp; try with_reducible rfl)
          try simp only [Act.put, List.setIfInBounds_toArray, List.set_cons_zero, List.set_cons_succ]
          refine wpAnyH_take (i := 15) (oi := { dst := some 38, op := _, type := _, pos := _, after := _, guard := none }) (v := ?gv16) rfl (by kernel_rfl) (by kernel_rfl) (by kernel_rfl) (fun _ _ _ h => h) (Or.inl ⟨by rfl, ?gy16⟩) (by assumption) ?_
          case gy16 => (intro w' hSw; go_simp; try with_reducible rfl)
          try simp only [Act.put, List.setIfInBounds_toArray, List.set_cons_zero, List.set_cons_succ]
          refine wpAnyH_take (i := 16) (oi := { dst := some 39, op := _, type := _, pos := _, after := _, guard := none }) (v := ?gv17) rfl (by kernel_rfl) (by kernel_rfl) (by kernel_rfl) (fun _ _ _ h => h) (Or.inl ⟨by rfl, ?gy17⟩) (by assumption) ?_
          case gy17 => (intro w' hSw; go_simp; try with_reducible rfl)
          try simp only [Act.put, List.setIfInBounds_toArray, List.set_cons_zero, List.set_cons_succ]
          refine wpAnyH_take (i := 17) (oi := { dst := some 40, op := _, type := _, pos := _, after := _, guard := none }) (v := ?gv18) rfl (by kernel_rfl) (by kernel_rfl) (by kernel_rfl) (fun _ _ _ h => h) (Or.inl ⟨by rfl, ?gy18⟩) (by assumption) ?_
          case gy18 => (intro w' hSw; go_simp; try with_reducible rfl)
          try simp only [Act.put, List.setIfInBounds_toArray, List.set_cons_zero, List.set_cons_succ]
          refine wpAnyH_take (i := 18) (oi := { dst := some 41, op := _, type := _, pos := _, after := _, guard := none }) (v := ?gv19) rfl (by kernel_rfl) (by kernel_rfl) (by kernel_rfl) (fun _ _ _ h => h) (Or.inl ⟨by rfl, ?gy19⟩) (by assumption) ?_
          case gy19 => (intro w' hSw; go_simp; try with_reducible rfl)
          try simp only [Act.put, List.setIfInBounds_toArray, List.set_cons_zero, List.set_cons_succ]
          refine wpAnyH_take (i := 19) (oi := { dst := some 42, op := _, type := _, pos := _, after := _, guard := none }) (v := ?gv20) rfl (by kernel_rfl) (by kernel_rfl) (by kernel_rfl) (fun _ _ _ h => h) (Or.inl ⟨by rfl, ?gy20⟩) (by assumption) ?_
          case gy20 => (intro w' hSw; go_simp; try with_reducible rfl)
          try simp only [Act.put, List.setIfInBounds_toArray, List.set_cons_zero, List.set_cons_succ]
          refine wpAnyH_take (i := 20) (oi := { dst := some 43, op := _, type := _, pos := _, after := _, guard := none }) (v := ?gv21) rfl (by kernel_rfl) (by kernel_rfl) (by kernel_rfl) (fun _ _ _ h => h) (Or.inl ⟨by rfl, ?gy21⟩) (by assumption) ?_
          case gy21 => (intro w' hSw; go_simp; try with_reducible rfl)
          try simp only [Act.put, List.setIfInBounds_toArray, List.set_cons_zero, List.set_cons_succ]
          refine wpAnyH_take (i := 21) (oi := { dst := some 44, op := _, type := _, pos := _, after := _, guard := none }) (v := ?gv22) rfl (by kernel_rfl) (by kernel_rfl) (by kernel_rfl) (fun _ _ _ h => h) (Or.inl ⟨by rfl, ?gy22⟩) (by assumption) ?_
          case gy22 => (intro w' hSw; go_simp; try with_reducible rfl)
          try simp only [Act.put, List.setIfInBounds_toArray, List.set_cons_zero, List.set_cons_succ]
          refine wpAnyH_take (i := 22) (oi := { dst := some 45, op := _, type := _, pos := _, after := _, guard := none }) (v := ?gv23) rfl (by kernel_rfl) (by kernel_rfl) (by kernel_rfl) (fun _ _ _ h => h) (Or.inl ⟨by rfl, ?gy23⟩) (by assumption) ?_
          case gy23 => (intro w' hSw; go_simp; try with_reducible rfl)
          try simp only [Act.put, List.setIfInBounds_toArray, List.set_cons_zero, List.set_cons_succ]
          refine wpAnyH_ready (rs := [23]) (by kernel_rfl) (by simp) ?_
          refine AllReadyH.cons rfl (fun K hK => ?_) AllReadyH.nil
          go_simp
          refine hK.out _ _ (by ((show Kq wp _); (repeat' (first | assumption | exact kq_refl | refine kq_draw ?_ | refine kq_drewN ?_ | refine kq_alloc ?_ | refine kq_set ?_ ?_ | refine kq_step ?_ (by assumption))); (all_goals (first | omega | (simp; omega))))) (fun hS1 => ?_)
          clear hK K
          try simp only [Act.put, List.setIfInBounds_toArray, List.set_cons_zero, List.set_cons_succ]
          refine wpAnyH_ready (rs := [24]) (by kernel_rfl) (by simp) ?_
          refine AllReadyH.cons rfl (fun K hK => ?_) AllReadyH.nil
          go_simp
          refine hK.out _ _ (by ((show Kq wp _); (repeat' (first | assumption | exact kq_refl | refine kq_draw ?_ | refine kq_drewN ?_ | refine kq_alloc ?_ | refine kq_set ?_ ?_ | refine kq_step ?_ (by assumption))); (all_goals (first | omega | (simp; omega))))) (fun hS2 => ?_)
          clear hK K
          try simp only [Act.put, List.setIfInBounds_toArray, List.set_cons_zero, List.set_cons_succ]
          refine wpAnyH_done (by kernel_rfl) (NoPanic.normal ?_) _
          clear e1 e2 hS0 hS1 hS2
          generalize q.x - p.x = b at *
          generalize q.h - p.h = d at *
          have e0 : Below wp.heap.size wp (wp.alloc (.cells #[.int .i64 b, .int .i64 d, .int .i64 0, .int .i64 0] 93)).drew := below_draw (below_alloc _ _)
          have T0 : Blk (wp.alloc (.cells #[.int .i64 b, .int .i64 d, .int .i64 0, .int .i64 0] 93)).drew wp.heap.size 93 #[.int .i64 b, .int .i64 d, .int .i64 0, .int .i64 0] := (Blk.new _ _ _).drew
          generalize (wp.alloc (.cells #[.int .i64 b, .int .i64 d, .int .i64 0, .int .i64 0] 93)).drew = W1 at *
          have hT1 : w.heap.size + 1 < wp.heap.size := D1.out.lt
          have hB3 := below_tr hB2 e0
          have E0 := Lib.hid (D0.out.below e0 D0.out.lt)
          have E1 := Lib.hid (D1.out.below e0 D1.out.lt)
          have HT0 := Lib.hid T0
          obtain ⟨_, _, _, _, he0, hab0, _, _⟩ := rdP hR hlt
          cases he0
          clear T0 e0 c0 c1 d0 d1 D0 D1
          generalize wp.heap.size = T at *
          have hTa : ab ≠ T := by omega
          have hTb : w.heap.size ≠ T := by omega
          have hTc : w.heap.size + 1 ≠ T := by omega
          have hTd : T ≠ w.heap.size + 1 := by omega
          have hTe : ab ≠ w.heap.size + 1 := by omega
          have hTf : w.heap.size ≠ w.heap.size + 1 := by omega
          go_wp2
          go_loopw [7] (fun i wr => ∃ k : Nat, k ≤ l.length ∧ i = .int .i64 k ∧ Below w.heap.size w wr ∧ Hid (Blk wr w.heap.size 93 #[.int .i64 0, .int .i64 0, .int .i64 0, .int .i64 0]) ∧ Hid (Blk wr (w.heap.size + 1) 93 (spC (sb, sd, sl, sh))) ∧ Hid (Blk wr T 93 #[.int .i64 b, .int .i64 d, .int .i64 (loN l b d k), .int .i64 (hiN l b d k)])) (fun i _ => l.length - (intOf i).toNat)
          case atStart => exact ⟨0, by omega, rfl, hB3, E0, E1, HT0⟩
          case round =>
            obtain ⟨k, hk, rfl, hB4, F0, F1, F2⟩ := hrel
            have lb := LB'.out k hk
            have hb := HB'.out k hk
            by_cases hlt3 : k < l.length
            · obtain ⟨r, _, _, hz, he, hab4, f0, f1⟩ := rdP (hR.on hB4) hlt3
              cases he
              obtain ⟨⟨u0, u1⟩, ⟨u2, u3⟩, _, _⟩ := VB.out k hlt3
              rw [ptAt_of hz] at u0 u1 u2 u3
              have ev : vS l b d k = r.x * d - b * r.h := by unfold vS; rw [ptAt_of hz]
              have HL := Lib.hid (show loN l b d (k + 1) = if k = 0 ∨ r.x * d - b * r.h < loN l b d k then r.x * d - b * r.h else loN l b d k by rw [loN, ev])
              have HH := Lib.hid (show hiN l b d (k + 1) = if k = 0 ∨ hiN l b d k < r.x * d - b * r.h then r.x * d - b * r.h else hiN l b d k by rw [hiN, ev])
              generalize loN l b d k = lo at *
              generalize hiN l b d k = hi at *
              obtain ⟨s0, s1, s2, s3, g0, g1, g2, g3⟩ := blk4 F2.out
              have k5 : (0 : Int) ≤ (k : Int) := Int.natCast_nonneg _
              have k6 : (k : Int) < (l.length : Int) := by omega
              clear hz ev
              rcases Nat.eq_zero_or_pos k with hk0 | hk0
              · have t0 : ((k : Int) == 0) = true := by simp; omega
                have HK0 := Lib.hid hk0
                clear hk0
                go_wp2
                go_quiet (fail)
                go_wp2
                go_roundw
                case rel => exact ⟨k + 1, by omega, by go_num, by (repeat' (first | assumption | exact below_refl _ | refine bl_alloc ?_ _ | refine Below.setCell ?_ ?_ _ | refine below_draw ?_ | refine below_drewN ?_ _ | refine below_tr ?_ (by assumption))) <;> (first | omega | (simp; done) | (simp; omega)), Lib.hid (by ((repeat' (first | exact F0.out | refine Blk.far ?_ ?_ _ | refine Blk.drewN ?_ _ | refine Blk.drew ?_ | refine Blk.alloc ?_ _)) <;> (first | assumption | omega | (simp; omega)))), Lib.hid (by ((repeat' (first | exact F1.out | refine Blk.far ?_ ?_ _ | refine Blk.drewN ?_ _ | refine Blk.drew ?_ | refine Blk.alloc ?_ _)) <;> (first | assumption | omega | (simp; omega)))), Lib.hid (by rw [HL.out, HH.out, if_pos (.inl HK0.out), if_pos (.inl HK0.out)]; exact ((F2.out.drewN _).set_ 2 (.int .i64 (r.x * d - b * r.h))).set_ 3 (.int .i64 (r.x * d - b * r.h)))⟩
                case measure => simp [intOf]; omega
              · by_cases h1 : r.x * d - b * r.h < lo
                · by_cases h2 : hi < r.x * d - b * r.h
                  · skip
                    have t0 : ((k : Int) == 0) = false := by simp; omega
                    have t1 : decide (r.x * d - b * r.h < lo) = true := by simp; omega
                    have t2 : decide (hi < r.x * d - b * r.h) = true := by simp; omega
                    go_wp2
                    go_quiet (fail)
                    go_wp2
                    go_roundw
                    case rel => exact ⟨k + 1, by omega, by go_num, by (repeat' (first | assumption | exact below_refl _ | refine bl_alloc ?_ _ | refine Below.setCell ?_ ?_ _ | refine below_draw ?_ | refine below_drewN ?_ _ | refine below_tr ?_ (by assumption))) <;> (first | omega | (simp; done) | (simp; omega)), Lib.hid (by ((repeat' (first | exact F0.out | refine Blk.far ?_ ?_ _ | refine Blk.drewN ?_ _ | refine Blk.drew ?_ | refine Blk.alloc ?_ _)) <;> (first | assumption | omega | (simp; omega)))), Lib.hid (by ((repeat' (first | exact F1.out | refine Blk.far ?_ ?_ _ | refine Blk.drewN ?_ _ | refine Blk.drew ?_ | refine Blk.alloc ?_ _)) <;> (first | assumption | omega | (simp; omega)))), Lib.hid (by rw [HL.out, HH.out, if_pos (.inr h1), if_pos (.inr h2)]; exact ((F2.out.drewN _).set_ 2 (.int .i64 (r.x * d - b * r.h))).set_ 3 (.int .i64 (r.x * d - b * r.h)))⟩
                    case measure => simp [intOf]; omega
                  · skip
                    have t0 : ((k : Int) == 0) = false := by simp; omega
                    have t1 : decide (r.x * d - b * r.h < lo) = true := by simp; omega
                    have t2 : decide (hi < r.x * d - b * r.h) = false := by simp; omega
                    go_wp2
                    go_quiet (fail)
                    go_wp2
                    go_roundw
                    case rel => exact ⟨k + 1, by omega, by go_num, by (repeat' (first | assumption | exact below_refl _ | refine bl_alloc ?_ _ | refine Below.setCell ?_ ?_ _ | refine below_draw ?_ | refine below_drewN ?_ _ | refine below_tr ?_ (by assumption))) <;> (first | omega | (simp; done) | (simp; omega)), Lib.hid (by ((repeat' (first | exact F0.out | refine Blk.far ?_ ?_ _ | refine Blk.drewN ?_ _ | refine Blk.drew ?_ | refine Blk.alloc ?_ _)) <;> (first | assumption | omega | (simp; omega)))), Lib.hid (by ((repeat' (first | exact F1.out | refine Blk.far ?_ ?_ _ | refine Blk.drewN ?_ _ | refine Blk.drew ?_ | refine Blk.alloc ?_ _)) <;> (first | assumption | omega | (simp; omega)))), Lib.hid (by rw [HL.out, HH.out, if_pos (.inr h1), if_neg (by omega)]; exact (F2.out.drewN _).set_ 2 (.int .i64 (r.x * d - b * r.h)))⟩
                    case measure => simp [intOf]; omega
                · by_cases h2 : hi < r.x * d - b * r.h
                  · skip
                    have t0 : ((k : Int) == 0) = false := by simp; omega
                    have t1 : decide (r.x * d - b * r.h < lo) = false := by simp; omega
                    have t2 : decide (hi < r.x * d - b * r.h) = true := by simp; omega
                    go_wp2
                    go_quiet (fail)
                    go_wp2
                    go_roundw
                    case rel => exact ⟨k + 1, by omega, by go_num, by (repeat' (first | assumption | exact below_refl _ | refine bl_alloc ?_ _ | refine Below.setCell ?_ ?_ _ | refine below_draw ?_ | refine below_drewN ?_ _ | refine below_tr ?_ (by assumption))) <;> (first | omega | (simp; done) | (simp; omega)), Lib.hid (by ((repeat' (first | exact F0.out | refine Blk.far ?_ ?_ _ | refine Blk.drewN ?_ _ | refine Blk.drew ?_ | refine Blk.alloc ?_ _)) <;> (first | assumption | omega | (simp; omega)))), Lib.hid (by ((repeat' (first | exact F1.out | refine Blk.far ?_ ?_ _ | refine Blk.drewN ?_ _ | refine Blk.drew ?_ | refine Blk.alloc ?_ _)) <;> (first | assumption | omega | (simp; omega)))), Lib.hid (by rw [HL.out, HH.out, if_neg (by omega), if_pos (.inr h2)]; exact (F2.out.drewN _).set_ 3 (.int .i64 (r.x * d - b * r.h)))⟩
                    case measure => simp [intOf]; omega
                  · skip
                    have t0 : ((k : Int) == 0) = false := by simp; omega
                    have t1 : decide (r.x * d - b * r.h < lo) = false := by simp; omega
                    have t2 : decide (hi < r.x * d - b * r.h) = false := by simp; omega
                    go_wp2
                    go_quiet (fail)
                    go_wp2
                    go_roundw
                    case rel => exact ⟨k + 1, by omega, by go_num, by (repeat' (first | assumption | exact below_refl _ | refine bl_alloc ?_ _ | refine Below.setCell ?_ ?_ _ | refine below_draw ?_ | refine below_drewN ?_ _ | refine below_tr ?_ (by assumption))) <;> (first | omega | (simp; done) | (simp; omega)), Lib.hid (by ((repeat' (first | exact F0.out | refine Blk.far ?_ ?_ _ | refine Blk.drewN ?_ _ | refine Blk.drew ?_ | refine Blk.alloc ?_ _)) <;> (first | assumption | omega | (simp; omega)))), Lib.hid (by ((repeat' (first | exact F1.out | refine Blk.far ?_ ?_ _ | refine Blk.drewN ?_ _ | refine Blk.drew ?_ | refine Blk.alloc ?_ _)) <;> (first | assumption | omega | (simp; omega)))), Lib.hid (by rw [HL.out, HH.out, if_neg (by omega), if_neg (by omega)]; exact F2.out.drewN _)⟩
                    case measure => simp [intOf]; omega
            · obtain rfl : k = l.length := by omega
              generalize loN l b d l.length = lo at *
              generalize hiN l b d l.length = hi at *
              obtain ⟨s0, s1, s2, s3, g0, g1, g2, g3⟩ := blk4 F2.out
              obtain ⟨o0, o1, o2, o3, x0, x1, x2, x3⟩ := blk4 F1.out
              have w1 := mul_bd (a := hi - lo) (b := sd) (A := 12000000000) (B := 200000) (by omega) (by omega) (by omega) (by omega)
              have w2 := mul_bd (a := sh - sl) (b := d) (A := 12000000000) (B := 200000) (by omega) (by omega) (by omega) (by omega)
              obtain ⟨w1, w1'⟩ := w1
              obtain ⟨w2, w2'⟩ := w2
              dsimp only at o0 o1 o2 o3
              by_cases hd0' : sd = 0
              · skip
                have t0 : (sd == 0) = true := by simp; omega
                go_wp2
                go_roundw
                case rel => exact ⟨m + 1, by have := HK.out; omega, int_eq (by have := HK.out; omega), by (repeat' (first | assumption | exact below_refl _ | refine bl_alloc ?_ _ | refine Below.setCell ?_ ?_ _ | refine below_draw ?_ | refine below_drewN ?_ _ | refine below_tr ?_ (by assumption))) <;> (first | omega | (simp; done) | (simp; omega)), Lib.hid (by ((repeat' (first | exact F0.out | refine Blk.far ?_ ?_ _ | refine Blk.drewN ?_ _ | refine Blk.drew ?_ | refine Blk.alloc ?_ _)) <;> (first | assumption | omega | (simp; omega)))), Lib.hid (by rw [HSI.out]; unfold spStep; rw [HSP.out, if_pos (show spLess (sb, sd, sl, sh) (b, d, lo, hi) from .inl hd0')]; exact ((((F1.out).set_ 0 (.int .i64 b)).set_ 1 (.int .i64 d)).set_ 2 (.int .i64 lo)).set_ 3 (.int .i64 hi))⟩
                case measure => simp [intOf]; omega
              · by_cases hless : (hi - lo) * sd < (sh - sl) * d
                · skip
                  have t0 : (sd == 0) = false := by simp; omega
                  have t1 : decide ((hi - lo) * sd < (sh - sl) * d) = true := by simp; omega
                  go_wp2
                  go_roundw
                  case rel => exact ⟨m + 1, by have := HK.out; omega, int_eq (by have := HK.out; omega), by (repeat' (first | assumption | exact below_refl _ | refine bl_alloc ?_ _ | refine Below.setCell ?_ ?_ _ | refine below_draw ?_ | refine below_drewN ?_ _ | refine below_tr ?_ (by assumption))) <;> (first | omega | (simp; done) | (simp; omega)), Lib.hid (by ((repeat' (first | exact F0.out | refine Blk.far ?_ ?_ _ | refine Blk.drewN ?_ _ | refine Blk.drew ?_ | refine Blk.alloc ?_ _)) <;> (first | assumption | omega | (simp; omega)))), Lib.hid (by rw [HSI.out]; unfold spStep; rw [HSP.out, if_pos (show spLess (sb, sd, sl, sh) (b, d, lo, hi) from .inr hless)]; exact ((((F1.out).set_ 0 (.int .i64 b)).set_ 1 (.int .i64 d)).set_ 2 (.int .i64 lo)).set_ 3 (.int .i64 hi))⟩
                  case measure => simp [intOf]; omega
                · skip
                  have t0 : (sd == 0) = false := by simp; omega
                  have t1 : decide ((hi - lo) * sd < (sh - sl) * d) = false := by simp; omega
                  go_wp2
                  go_roundw
                  case rel => exact ⟨m + 1, by have := HK.out; omega, int_eq (by have := HK.out; omega), by (repeat' (first | assumption | exact below_refl _ | refine bl_alloc ?_ _ | refine Below.setCell ?_ ?_ _ | refine below_draw ?_ | refine below_drewN ?_ _ | refine below_tr ?_ (by assumption))) <;> (first | omega | (simp; done) | (simp; omega)), Lib.hid (by ((repeat' (first | exact F0.out | refine Blk.far ?_ ?_ _ | refine Blk.drewN ?_ _ | refine Blk.drew ?_ | refine Blk.alloc ?_ _)) <;> (first | assumption | omega | (simp; omega)))), Lib.hid (by rw [HSI.out]; unfold spStep; rw [HSP.out, if_neg (show ¬ spLess (sb, sd, sl, sh) (b, d, lo, hi) from fun h => by rcases h with h | h; exact hd0' h; exact hless h)]; exact F1.out)⟩
                  case measure => simp [intOf]; omega
        · obtain hme : a + 1 + m = l.length := by omega
          have t9 : ¬ ((a + 1 + m : Nat) : Int) < (l.length : Int) := by omega
          have HSO := Lib.hid (show spO l (a + 1) = spI l a (spO l a) m by rw [spO, show l.length - (a + 1) = m by omega])
          have hK : (l.length : Int) ≤ ((a + 1 + m : Nat) : Int) := by omega
          clear hme
          generalize a + 1 + m = K at *
          go_wp2
          go_roundw
          case rel => exact ⟨a + 1, by omega, by go_num, hB2, D0, Lib.hid (by rw [HSO.out]; exact D1.out)⟩
          case measure => simp [intOf]; omega
    · obtain rfl : a = l.length := by omega
      obtain ⟨s0, s1, s2, s3, g0, g1, g2, g3⟩ := blk4 C0.out
      obtain ⟨o0, o1, o2, o3, x0, x1, x2, x3⟩ := blk4 C1.out
      have hw0 := C1.out.lt
      have hne : w.heap.size ≠ w.heap.size + 1 := by omega
      have hS : spO l l.length = narS l := rfl
      rw [hS] at o0 o1 o2 o3
      clear C0 C1 hS hs
      go_wp2
      (refine bodyPost_ret (v := spV (narS l)) (by simp [results, Try.results81, go_sem, *]) rfl ⟨rfl, ?_⟩; (repeat' (first | assumption | exact below_refl _ | refine bl_alloc ?_ _ | refine Below.setCell ?_ ?_ _ | refine below_draw ?_ | refine below_drewN ?_ _ | refine below_tr ?_ (by assumption))) <;> (first | omega | (simp; done) | (simp; omega)))
end Go.Proofs.Ytohbejdfaecghaa
