/- Fell's texts: Format of the reference. -/
import Derived.Test.YthklgkgincebhaaGreatDoorYb
import Derived.Test.YthklgkgincebhaaGreatDoorYf
set_option linter.unusedSimpArgs false
set_option linter.unusedVariables false
namespace Go.Proofs.YthklgkgincebhaaGreatDoor.T6
open Go.RowKit Go.Lib Tx

theorem r_ValidV6 {g : List Pr} {b : Bool} (h : vP g = b) {A : Option Addr} {c : Nat} {w : World} (hl : g.length ≤ 100000) (hR : Rd Pr.cs 3 w A g) :
    Calls Tryz.prog 10 #[.slice A g.length c] w fun e w' => e = .returned (.bool b) ∧ Below w.heap.size w w' := h ▸ r_Valid A g c w hl hR
theorem form_stepP {g : List Pr} {k : Nat} {x : Pr} (hx : g[k]? = some x) : bts (fmtZ lnP (g.take (k + 1))) = bts (fmtZ lnP (g.take k)) ++ bts (itoa x.a.x) ++ ⟨#[32]⟩ ++ bts (itoa x.a.y) ++ (if x.wd = true then ⟨#[32, 119, 111, 111, 100]⟩ else ⟨#[]⟩) ++ ⟨#[10]⟩ := by
  rw [fmF_step hx]
  have e : (⟨#[32]⟩ : ByteArray) = bts [32] := rfl
  have e2 : (⟨#[10]⟩ : ByteArray) = bts [10] := rfl
  obtain ⟨⟨X, Y⟩, W⟩ := x
  cases W
  · rw [if_neg (by simp), show (⟨#[]⟩ : ByteArray) = bts [] from rfl, e, e2, ba_app, ba_app, ba_app, ba_app, ba_app]
    unfold lnP wsP
    simp [joinZ]
  · rw [if_pos rfl, show (⟨#[32, 119, 111, 111, 100]⟩ : ByteArray) = bts [32, 119, 111, 111, 100] from rfl, e, e2, ba_app, ba_app, ba_app, ba_app, ba_app]
    unfold lnP wsP
    simp [joinZ, wdS]
theorem form_stepF {g : List Pr} {k : Nat} {X Y : Int} (hx : g[k]? = some ⟨⟨X, Y⟩, false⟩) : bts (fmtZ lnP (g.take (k + 1))) = bts (fmtZ lnP (g.take k)) ++ bts (itoa X) ++ ⟨#[32]⟩ ++ bts (itoa Y) ++ ⟨#[10]⟩ := by
  rw [form_stepP hx, if_neg (by simp)]
  congr 1
  exact ByteArray.ext (by simp [ByteArray.data_append])
theorem form_stepT {g : List Pr} {k : Nat} {X Y : Int} (hx : g[k]? = some ⟨⟨X, Y⟩, true⟩) : bts (fmtZ lnP (g.take (k + 1))) = bts (fmtZ lnP (g.take k)) ++ bts (itoa X) ++ ⟨#[32]⟩ ++ bts (itoa Y) ++ ⟨#[32, 119, 111, 111, 100]⟩ ++ ⟨#[10]⟩ := by
  rw [form_stepP hx, if_pos rfl]
set_option maxHeartbeats 4000000 in
set_option maxRecDepth 20000 in
theorem r_FormatF (A : Option Addr) (g : List Pr) (c : Nat) (w : World) (hl : g.length ≤ 100000) (hR : Rd Pr.cs 3 w A g) :
    Calls Tryz.prog 8 #[.slice A g.length c] w fun e w' => e = .returned (.string (fmF g)) ∧ Below w.heap.size w w' := by
  cases hv : vP g
  · have H2 := Lib.hid (r_ValidV6 (c := c) hv hl hR)
    have HF := Lib.hid (show fmF g = ⟨#[]⟩ by unfold fmF; rw [hv]; rfl)
    rw [HF.out]
    clear hv
    go_enter Tryz.func8, Tryz.ntmps8
    go_wp2_with (go_at_call 10; ((with_reducible refine (H2.out).mono ?_); rintro e w1 ⟨rfl, hb1⟩; obtain ⟨hc1, hf1⟩ := bcell hb1; have hz1 := hb1.size; (try simp [sz_drew, sz_drewN] at hz1); (try simp only [sz_drew, sz_drewN] at hc1 hf1)))
    go_ret
    exact ⟨rfl, hb1⟩
  · have HF := Lib.hid (show fmF g = bts (fmtZ lnP g) by unfold fmF; rw [hv]; rfl)
    have H2 := Lib.hid (r_ValidV6 (c := c) hv hl hR)
    have HS := Lib.hid (vP_spot hv)
    have h64 : g.length ≤ 24 := vP_len hv
    rw [HF.out]
    clear hv HF
    go_enter Tryz.func8, Tryz.ntmps8
    go_wp2_with (go_at_call 10; ((with_reducible refine (H2.out).mono ?_); rintro e w1 ⟨rfl, hb1⟩; obtain ⟨hc1, hf1⟩ := bcell hb1; have hz1 := hb1.size; (try simp [sz_drew, sz_drewN] at hz1); (try simp only [sz_drew, sz_drewN] at hc1 hf1)))
    go_loopw [3, 4] (fun v i wr => ∃ k : Nat, k ≤ g.length ∧ i = .int .i64 k ∧ v = .string (bts (fmtZ lnP (g.take k))) ∧ Below w.heap.size w wr) (fun _ i _ => g.length - (RowKit.intOf i).toNat)
    case atStart => exact ⟨0, by omega, rfl, rfl, hb1⟩
    case round =>
      obtain ⟨k, hk, rfl, rfl, hbw⟩ := hrel
      rename World => wr
      clear hc1 hf1
      by_cases hlt : k < g.length
      · have k0 : (0 : Int) ≤ (k : Int) := Int.natCast_nonneg _
        have k1 : (k : Int) < (g.length : Int) := by omega
        obtain ⟨x, b, off, hx, rfl, hbl, c0, c1, c2⟩ := rdP (hR.on hbw) hlt
        obtain ⟨x1, x2, x3, x4⟩ := isS_bd (HS.out x (List.mem_of_getElem? hx))
        have HI1 := Lib.hid (fun W => r_Digits x.a.x W (by omega) (by omega))
        have HI2 := Lib.hid (fun W => r_Digits x.a.y W (by omega) (by omega))
        have hs1 : (bts (itoa x.a.x)).size ≤ 21 := by have := itoa_len (n := x.a.x) (by omega) (by omega); rw [bts_size]; omega
        have hs2 : (bts (itoa x.a.y)).size ≤ 21 := by have := itoa_len (n := x.a.y) (by omega) (by omega); rw [bts_size]; omega
        have hlf : (bts (fmtZ lnP (g.take k))).size ≤ 1464 := by
          have := fmF_len (g := g.take k) fun y hy => HS.out y (List.mem_of_mem_take hy)
          rw [List.length_take] at this
          rw [bts_size]
          omega
        change Hid (∀ W, Calls Tryz.prog 23 #[.int .i64 x.a.x] W fun e w' => e = .returned (.string (bts (itoa x.a.x))) ∧ Below W.heap.size W w') at HI1
        change Hid (∀ W, Calls Tryz.prog 23 #[.int .i64 x.a.y] W fun e w' => e = .returned (.string (bts (itoa x.a.y))) ∧ Below W.heap.size W w') at HI2
        clear HS x1 x2 x3 x4
        obtain ⟨⟨X0, Y0⟩, WD⟩ := x
        dsimp only at *
        cases WD
        · have HST := Lib.hid (form_stepF hx)
          clear hx
          generalize bts (itoa X0) = S1 at *
          generalize bts (itoa Y0) = S2 at *
          generalize bts (fmtZ lnP (g.take k)) = ST at *
          have z0 : ¬ 9223372036854775807 < ST.size + S1.size := by omega
          have z1 : ¬ 9223372036854775807 < ST.size + S1.size + 1 := by omega
          have z2 : ¬ 9223372036854775807 < ST.size + S1.size + 1 + S2.size := by omega
          have z3 : ¬ 9223372036854775807 < ST.size + S1.size + 1 + S2.size + 1 := by omega
          clear hlf hs1 hs2
          go_wp2_with fail
          refine wp_region_noPanic ?_
          refine wp_region_held_drew (S := (fun w' => (∀ b o, b < wr.heap.size → w'.cell? ⟨b, o, none⟩ = wr.cell? ⟨b, o, none⟩) ∧ (∀ b o, b < wr.heap.size → w'.frozen? ⟨b, o, none⟩ = wr.frozen? ⟨b, o, none⟩) ∧ Below wr.heap.size wr w')) (by kernel_rfl) (kq_draw kq_refl) (fun hS0 => ?_)
          refine wpAnyH_take (i := 0) (oi := { dst := some 14, op := _, type := _, pos := _, after := _, guard := none }) (v := ?gv1) rfl (by kernel_rfl) (by kernel_rfl) (by kernel_rfl) (fun _ _ _ h => h) (Or.inl ⟨by rfl, ?gy1⟩) (by assumption) ?_
          case gy1 => (intro w' hSw; go_simp; try with_reducible rfl)
          try simp only [Act.put, List.setIfInBounds_toArray, List.set_cons_zero, List.set_cons_succ]
          refine wpAnyH_take (i := 1) (oi := { dst := some 15, op := _, type := _, pos := _, after := _, guard := none }) (v := ?gv2) rfl (by kernel_rfl) (by kernel_rfl) (by kernel_rfl) (fun _ _ _ h => h) (Or.inl ⟨by rfl, ?gy2⟩) (by assumption) ?_
          case gy2 => (intro w' hSw; go_simp; try with_reducible rfl)
          try simp only [Act.put, List.setIfInBounds_toArray, List.set_cons_zero, List.set_cons_succ]
          refine wpAnyH_take (i := 2) (oi := { dst := some 16, op := _, type := _, pos := _, after := _, guard := none }) (v := ?gv3) rfl (by kernel_rfl) (by kernel_rfl) (by kernel_rfl) (fun _ _ _ h => h) (Or.inl ⟨by rfl, ?gy3⟩) (by assumption) ?_
          case gy3 => (intro w' hSw; go_simp; try with_reducible rfl)
          try simp only [Act.put, List.setIfInBounds_toArray, List.set_cons_zero, List.set_cons_succ]
          refine wpAnyH_take (i := 3) (oi := { dst := some 17, op := _, type := _, pos := _, after := _, guard := none }) (v := ?gv4) rfl (by kernel_rfl) (by kernel_rfl) (by kernel_rfl) (fun _ _ _ h => h) (Or.inl ⟨by rfl, ?gy4⟩) (by assumption) ?_
          case gy4 => (intro w' hSw; go_simp; try with_reducible rfl)
          try simp only [Act.put, List.setIfInBounds_toArray, List.set_cons_zero, List.set_cons_succ]
          refine wpAnyH_take (i := 4) (oi := { dst := some 18, op := _, type := _, pos := _, after := _, guard := none }) (v := ?gv5) rfl (by kernel_rfl) (by kernel_rfl) (by kernel_rfl) (fun _ _ _ h => h) (Or.inl ⟨by rfl, ?gy5⟩) (by assumption) ?_
          case gy5 => (intro w' hSw; go_simp; try with_reducible rfl)
          try simp only [Act.put, List.setIfInBounds_toArray, List.set_cons_zero, List.set_cons_succ]
          refine wpAnyH_take (i := 5) (oi := { dst := some 19, op := _, type := _, pos := _, after := _, guard := none }) (v := ?gv6) rfl (by kernel_rfl) (by kernel_rfl) (by kernel_rfl) (fun _ _ _ h => h) (Or.inl ⟨by rfl, ?gy6⟩) (by assumption) ?_
          case gy6 => (intro w' hSw; go_simp; try with_reducible rfl)
          try simp only [Act.put, List.setIfInBounds_toArray, List.set_cons_zero, List.set_cons_succ]
          refine wpAnyH_take (i := 6) (oi := { dst := some 20, op := _, type := _, pos := _, after := _, guard := none }) (v := ?gv7) rfl (by kernel_rfl) (by kernel_rfl) (by kernel_rfl) (fun _ _ _ h => h) (Or.inl ⟨by rfl, ?gy7⟩) (by assumption) ?_
          case gy7 => (intro w' hSw; go_simp; try with_reducible rfl)
          try simp only [Act.put, List.setIfInBounds_toArray, List.set_cons_zero, List.set_cons_succ]
          refine wpAnyH_take (i := 10) (oi := { dst := some 24, op := _, type := _, pos := _, after := _, guard := none }) (v := ?gv8) rfl (by kernel_rfl) (by kernel_rfl) (by kernel_rfl) (fun _ _ _ h => h) (Or.inl ⟨by rfl, ?gy8⟩) (by assumption) ?_
          case gy8 => (intro w' hSw; go_simp; try with_reducible rfl)
          try simp only [Act.put, List.setIfInBounds_toArray, List.set_cons_zero, List.set_cons_succ]
          refine wpAnyH_take (i := 11) (oi := { dst := some 25, op := _, type := _, pos := _, after := _, guard := none }) (v := ?gv9) rfl (by kernel_rfl) (by kernel_rfl) (by kernel_rfl) (fun _ _ _ h => h) (Or.inl ⟨by rfl, ?gy9⟩) (by assumption) ?_
          case gy9 => (intro w' hSw; go_simp; try with_reducible rfl)
          try simp only [Act.put, List.setIfInBounds_toArray, List.set_cons_zero, List.set_cons_succ]
          refine wpAnyH_take (i := 12) (oi := { dst := some 26, op := _, type := _, pos := _, after := _, guard := none }) (v := ?gv10) rfl (by kernel_rfl) (by kernel_rfl) (by kernel_rfl) (fun _ _ _ h => h) (Or.inl ⟨by rfl, ?gy10⟩) (by assumption) ?_
          case gy10 => (intro w' hSw; go_simp; try with_reducible rfl)
          try simp only [Act.put, List.setIfInBounds_toArray, List.set_cons_zero, List.set_cons_succ]
          refine wpAnyH_take (i := 13) (oi := { dst := some 27, op := _, type := _, pos := _, after := _, guard := none }) (v := ?gv11) rfl (by kernel_rfl) (by kernel_rfl) (by kernel_rfl) (fun _ _ _ h => h) (Or.inl ⟨by rfl, ?gy11⟩) (by assumption) ?_
          case gy11 => (intro w' hSw; go_simp; try with_reducible rfl)
          try simp only [Act.put, List.setIfInBounds_toArray, List.set_cons_zero, List.set_cons_succ]
          refine wpAnyH_take (i := 14) (oi := { dst := some 28, op := _, type := _, pos := _, after := _, guard := none }) (v := ?gv12) rfl (by kernel_rfl) (by kernel_rfl) (by kernel_rfl) (fun _ _ _ h => h) (Or.inl ⟨by rfl, ?gy12⟩) (by assumption) ?_
          case gy12 => (intro w' hSw; go_simp; try with_reducible rfl)
          try simp only [Act.put, List.setIfInBounds_toArray, List.set_cons_zero, List.set_cons_succ]
          refine wpAnyH_take (i := 15) (oi := { dst := some 29, op := _, type := _, pos := _, after := _, guard := none }) (v := ?gv13) rfl (by kernel_rfl) (by kernel_rfl) (by kernel_rfl) (fun _ _ _ h => h) (Or.inl ⟨by rfl, ?gy13⟩) (by assumption) ?_
          case gy13 => (intro w' hSw; go_simp; try with_reducible rfl)
          try simp only [Act.put, List.setIfInBounds_toArray, List.set_cons_zero, List.set_cons_succ]
          refine wpAnyH_ready (rs := [7]) (by kernel_rfl) (by simp) ?_
          refine AllReadyH.cons rfl (fun K hK => ?_) AllReadyH.nil
          go_simp
          (go_at_call 23; ((with_reducible refine (HI1.out _).mono ?_); rintro e w3 ⟨rfl, hb3⟩; obtain ⟨hc3, hf3⟩ := bcell hb3; have hz3 := hb3.size; (try simp [sz_drew, sz_drewN] at hz3); (try simp only [sz_drew, sz_drewN] at hc3 hf3)))
          refine hK.out _ _ (by ((show Kq wr _); (repeat' (first | assumption | exact kq_refl | refine kq_draw ?_ | refine kq_drewN ?_ | refine kq_alloc ?_ | refine kq_set ?_ ?_ | refine kq_step ?_ (by assumption))); (all_goals (first | omega | (simp; omega))))) (fun hS1 => ?_)
          clear hK K
          try simp only [Act.put, List.setIfInBounds_toArray, List.set_cons_zero, List.set_cons_succ]
          refine wpAnyH_take (i := 8) (oi := { dst := some 22, op := _, type := _, pos := _, after := _, guard := none }) (v := ?gv14) rfl (by kernel_rfl) (by kernel_rfl) (by kernel_rfl) (fun _ _ _ h => h) (Or.inl ⟨by rfl, ?gy14⟩) (by assumption) ?_
          case gy14 => (intro w' hSw; go_simp; try with_reducible rfl)
          try simp only [Act.put, List.setIfInBounds_toArray, List.set_cons_zero, List.set_cons_succ]
          refine wpAnyH_take (i := 9) (oi := { dst := some 23, op := _, type := _, pos := _, after := _, guard := none }) (v := ?gv15) rfl (by kernel_rfl) (by kernel_rfl) (by kernel_rfl) (fun _ _ _ h => h) (Or.inl ⟨by rfl, ?gy15⟩) (by assumption) ?_
          case gy15 => (intro w' hSw; go_simp; try with_reducible rfl)
          try simp only [Act.put, List.setIfInBounds_toArray, List.set_cons_zero, List.set_cons_succ]
          refine wpAnyH_ready (rs := [16]) (by kernel_rfl) (by simp) ?_
          refine AllReadyH.cons rfl (fun K hK => ?_) AllReadyH.nil
          go_simp
          (go_at_call 23; ((with_reducible refine (HI2.out _).mono ?_); rintro e w4 ⟨rfl, hb4⟩; obtain ⟨hc4, hf4⟩ := bcell hb4; have hz4 := hb4.size; (try simp [sz_drew, sz_drewN] at hz4); (try simp only [sz_drew, sz_drewN] at hc4 hf4)))
          refine hK.out _ _ (by ((show Kq wr _); (repeat' (first | assumption | exact kq_refl | refine kq_draw ?_ | refine kq_drewN ?_ | refine kq_alloc ?_ | refine kq_set ?_ ?_ | refine kq_step ?_ (by assumption))); (all_goals (first | omega | (simp; omega))))) (fun hS2 => ?_)
          clear hK K
          try simp only [Act.put, List.setIfInBounds_toArray, List.set_cons_zero, List.set_cons_succ]
          refine wpAnyH_take (i := 17) (oi := { dst := some 31, op := _, type := _, pos := _, after := _, guard := none }) (v := ?gv16) rfl (by kernel_rfl) (by kernel_rfl) (by kernel_rfl) (fun _ _ _ h => h) (Or.inl ⟨by rfl, ?gy16⟩) (by assumption) ?_
          case gy16 => (intro w' hSw; go_simp; try with_reducible rfl)
          try simp only [Act.put, List.setIfInBounds_toArray, List.set_cons_zero, List.set_cons_succ]
          refine wpAnyH_take (i := 18) (oi := { dst := some 3, op := _, type := _, pos := _, after := _, guard := none }) (v := ?gv17) rfl (by kernel_rfl) (by kernel_rfl) (by kernel_rfl) (fun _ _ _ h => h) (Or.inl ⟨by rfl, ?gy17⟩) (by assumption) ?_
          case gy17 => (intro w' hSw; go_simp; try with_reducible rfl)
          try simp only [Act.put, List.setIfInBounds_toArray, List.set_cons_zero, List.set_cons_succ]
          refine wpAnyH_done (by kernel_rfl) (NoPanic.normal ?_) _
          rotate_left
          all_goals
            go_wp2
            go_roundw
            case rel => exact ⟨k + 1, by omega, by go_num, by rw [HST.out], below_tr hbw (by (repeat' (first | assumption | exact below_refl _ | refine bl_alloc ?_ _ | refine Below.setCell ?_ ?_ _ | refine below_draw ?_ | refine below_drewN ?_ _ | refine below_tr ?_ (by assumption))) <;> (first | omega | (simp; done) | (simp; omega)))⟩
            case measure => simp [RowKit.intOf]; omega
        · have HST := Lib.hid (form_stepT hx)
          clear hx
          generalize bts (itoa X0) = S1 at *
          generalize bts (itoa Y0) = S2 at *
          generalize bts (fmtZ lnP (g.take k)) = ST at *
          have z0 : ¬ 9223372036854775807 < ST.size + S1.size := by omega
          have z1 : ¬ 9223372036854775807 < ST.size + S1.size + 1 := by omega
          have z2 : ¬ 9223372036854775807 < ST.size + S1.size + 1 + S2.size := by omega
          have z3 : ¬ 9223372036854775807 < ST.size + S1.size + 1 + S2.size + 5 := by omega
          have z4 : ¬ 9223372036854775807 < ST.size + S1.size + 1 + S2.size + 5 + 1 := by omega
          clear hlf hs1 hs2
          go_wp2_with fail
          refine wp_region_noPanic ?_
          refine wp_region_held_drew (S := (fun w' => (∀ b o, b < wr.heap.size → w'.cell? ⟨b, o, none⟩ = wr.cell? ⟨b, o, none⟩) ∧ (∀ b o, b < wr.heap.size → w'.frozen? ⟨b, o, none⟩ = wr.frozen? ⟨b, o, none⟩) ∧ Below wr.heap.size wr w')) (by kernel_rfl) (kq_draw kq_refl) (fun hS0 => ?_)
          refine wpAnyH_take (i := 0) (oi := { dst := some 14, op := _, type := _, pos := _, after := _, guard := none }) (v := ?gv18) rfl (by kernel_rfl) (by kernel_rfl) (by kernel_rfl) (fun _ _ _ h => h) (Or.inl ⟨by rfl, ?gy18⟩) (by assumption) ?_
          case gy18 => (intro w' hSw; go_simp; try with_reducible rfl)
          try simp only [Act.put, List.setIfInBounds_toArray, List.set_cons_zero, List.set_cons_succ]
          refine wpAnyH_take (i := 1) (oi := { dst := some 15, op := _, type := _, pos := _, after := _, guard := none }) (v := ?gv19) rfl (by kernel_rfl) (by kernel_rfl) (by kernel_rfl) (fun _ _ _ h => h) (Or.inl ⟨by rfl, ?gy19⟩) (by assumption) ?_
          case gy19 => (intro w' hSw; go_simp; try with_reducible rfl)
          try simp only [Act.put, List.setIfInBounds_toArray, List.set_cons_zero, List.set_cons_succ]
          refine wpAnyH_take (i := 2) (oi := { dst := some 16, op := _, type := _, pos := _, after := _, guard := none }) (v := ?gv20) rfl (by kernel_rfl) (by kernel_rfl) (by kernel_rfl) (fun _ _ _ h => h) (Or.inl ⟨by rfl, ?gy20⟩) (by assumption) ?_
          case gy20 => (intro w' hSw; go_simp; try with_reducible rfl)
          try simp only [Act.put, List.setIfInBounds_toArray, List.set_cons_zero, List.set_cons_succ]
          refine wpAnyH_take (i := 3) (oi := { dst := some 17, op := _, type := _, pos := _, after := _, guard := none }) (v := ?gv21) rfl (by kernel_rfl) (by kernel_rfl) (by kernel_rfl) (fun _ _ _ h => h) (Or.inl ⟨by rfl, ?gy21⟩) (by assumption) ?_
          case gy21 => (intro w' hSw; go_simp; try with_reducible rfl)
          try simp only [Act.put, List.setIfInBounds_toArray, List.set_cons_zero, List.set_cons_succ]
          refine wpAnyH_take (i := 4) (oi := { dst := some 18, op := _, type := _, pos := _, after := _, guard := none }) (v := ?gv22) rfl (by kernel_rfl) (by kernel_rfl) (by kernel_rfl) (fun _ _ _ h => h) (Or.inl ⟨by rfl, ?gy22⟩) (by assumption) ?_
          case gy22 => (intro w' hSw; go_simp; try with_reducible rfl)
          try simp only [Act.put, List.setIfInBounds_toArray, List.set_cons_zero, List.set_cons_succ]
          refine wpAnyH_take (i := 5) (oi := { dst := some 19, op := _, type := _, pos := _, after := _, guard := none }) (v := ?gv23) rfl (by kernel_rfl) (by kernel_rfl) (by kernel_rfl) (fun _ _ _ h => h) (Or.inl ⟨by rfl, ?gy23⟩) (by assumption) ?_
          case gy23 => (intro w' hSw; go_simp; try with_reducible rfl)
          try simp only [Act.put, List.setIfInBounds_toArray, List.set_cons_zero, List.set_cons_succ]
          refine wpAnyH_take (i := 6) (oi := { dst := some 20, op := _, type := _, pos := _, after := _, guard := none }) (v := ?gv24) rfl (by kernel_rfl) (by kernel_rfl) (by kernel_rfl) (fun _ _ _ h => h) (Or.inl ⟨by rfl, ?gy24⟩) (by assumption) ?_
          case gy24 => (intro w' hSw; go_simp; try with_reducible rfl)
          try simp only [Act.put, List.setIfInBounds_toArray, List.set_cons_zero, List.set_cons_succ]
          refine wpAnyH_take (i := 10) (oi := { dst := some 24, op := _, type := _, pos := _, after := _, guard := none }) (v := ?gv25) rfl (by kernel_rfl) (by kernel_rfl) (by kernel_rfl) (fun _ _ _ h => h) (Or.inl ⟨by rfl, ?gy25⟩) (by assumption) ?_
          case gy25 => (intro w' hSw; go_simp; try with_reducible rfl)
          try simp only [Act.put, List.setIfInBounds_toArray, List.set_cons_zero, List.set_cons_succ]
          refine wpAnyH_take (i := 11) (oi := { dst := some 25, op := _, type := _, pos := _, after := _, guard := none }) (v := ?gv26) rfl (by kernel_rfl) (by kernel_rfl) (by kernel_rfl) (fun _ _ _ h => h) (Or.inl ⟨by rfl, ?gy26⟩) (by assumption) ?_
          case gy26 => (intro w' hSw; go_simp; try with_reducible rfl)
          try simp only [Act.put, List.setIfInBounds_toArray, List.set_cons_zero, List.set_cons_succ]
          refine wpAnyH_take (i := 12) (oi := { dst := some 26, op := _, type := _, pos := _, after := _, guard := none }) (v := ?gv27) rfl (by kernel_rfl) (by kernel_rfl) (by kernel_rfl) (fun _ _ _ h => h) (Or.inl ⟨by rfl, ?gy27⟩) (by assumption) ?_
          case gy27 => (intro w' hSw; go_simp; try with_reducible rfl)
          try simp only [Act.put, List.setIfInBounds_toArray, List.set_cons_zero, List.set_cons_succ]
          refine wpAnyH_take (i := 13) (oi := { dst := some 27, op := _, type := _, pos := _, after := _, guard := none }) (v := ?gv28) rfl (by kernel_rfl) (by kernel_rfl) (by kernel_rfl) (fun _ _ _ h => h) (Or.inl ⟨by rfl, ?gy28⟩) (by assumption) ?_
          case gy28 => (intro w' hSw; go_simp; try with_reducible rfl)
          try simp only [Act.put, List.setIfInBounds_toArray, List.set_cons_zero, List.set_cons_succ]
          refine wpAnyH_take (i := 14) (oi := { dst := some 28, op := _, type := _, pos := _, after := _, guard := none }) (v := ?gv29) rfl (by kernel_rfl) (by kernel_rfl) (by kernel_rfl) (fun _ _ _ h => h) (Or.inl ⟨by rfl, ?gy29⟩) (by assumption) ?_
          case gy29 => (intro w' hSw; go_simp; try with_reducible rfl)
          try simp only [Act.put, List.setIfInBounds_toArray, List.set_cons_zero, List.set_cons_succ]
          refine wpAnyH_take (i := 15) (oi := { dst := some 29, op := _, type := _, pos := _, after := _, guard := none }) (v := ?gv30) rfl (by kernel_rfl) (by kernel_rfl) (by kernel_rfl) (fun _ _ _ h => h) (Or.inl ⟨by rfl, ?gy30⟩) (by assumption) ?_
          case gy30 => (intro w' hSw; go_simp; try with_reducible rfl)
          try simp only [Act.put, List.setIfInBounds_toArray, List.set_cons_zero, List.set_cons_succ]
          refine wpAnyH_ready (rs := [7]) (by kernel_rfl) (by simp) ?_
          refine AllReadyH.cons rfl (fun K hK => ?_) AllReadyH.nil
          go_simp
          (go_at_call 23; ((with_reducible refine (HI1.out _).mono ?_); rintro e w3 ⟨rfl, hb3⟩; obtain ⟨hc3, hf3⟩ := bcell hb3; have hz3 := hb3.size; (try simp [sz_drew, sz_drewN] at hz3); (try simp only [sz_drew, sz_drewN] at hc3 hf3)))
          refine hK.out _ _ (by ((show Kq wr _); (repeat' (first | assumption | exact kq_refl | refine kq_draw ?_ | refine kq_drewN ?_ | refine kq_alloc ?_ | refine kq_set ?_ ?_ | refine kq_step ?_ (by assumption))); (all_goals (first | omega | (simp; omega))))) (fun hS1 => ?_)
          clear hK K
          try simp only [Act.put, List.setIfInBounds_toArray, List.set_cons_zero, List.set_cons_succ]
          refine wpAnyH_take (i := 8) (oi := { dst := some 22, op := _, type := _, pos := _, after := _, guard := none }) (v := ?gv31) rfl (by kernel_rfl) (by kernel_rfl) (by kernel_rfl) (fun _ _ _ h => h) (Or.inl ⟨by rfl, ?gy31⟩) (by assumption) ?_
          case gy31 => (intro w' hSw; go_simp; try with_reducible rfl)
          try simp only [Act.put, List.setIfInBounds_toArray, List.set_cons_zero, List.set_cons_succ]
          refine wpAnyH_take (i := 9) (oi := { dst := some 23, op := _, type := _, pos := _, after := _, guard := none }) (v := ?gv32) rfl (by kernel_rfl) (by kernel_rfl) (by kernel_rfl) (fun _ _ _ h => h) (Or.inl ⟨by rfl, ?gy32⟩) (by assumption) ?_
          case gy32 => (intro w' hSw; go_simp; try with_reducible rfl)
          try simp only [Act.put, List.setIfInBounds_toArray, List.set_cons_zero, List.set_cons_succ]
          refine wpAnyH_ready (rs := [16]) (by kernel_rfl) (by simp) ?_
          refine AllReadyH.cons rfl (fun K hK => ?_) AllReadyH.nil
          go_simp
          (go_at_call 23; ((with_reducible refine (HI2.out _).mono ?_); rintro e w4 ⟨rfl, hb4⟩; obtain ⟨hc4, hf4⟩ := bcell hb4; have hz4 := hb4.size; (try simp [sz_drew, sz_drewN] at hz4); (try simp only [sz_drew, sz_drewN] at hc4 hf4)))
          refine hK.out _ _ (by ((show Kq wr _); (repeat' (first | assumption | exact kq_refl | refine kq_draw ?_ | refine kq_drewN ?_ | refine kq_alloc ?_ | refine kq_set ?_ ?_ | refine kq_step ?_ (by assumption))); (all_goals (first | omega | (simp; omega))))) (fun hS2 => ?_)
          clear hK K
          try simp only [Act.put, List.setIfInBounds_toArray, List.set_cons_zero, List.set_cons_succ]
          refine wpAnyH_take (i := 17) (oi := { dst := some 31, op := _, type := _, pos := _, after := _, guard := none }) (v := ?gv33) rfl (by kernel_rfl) (by kernel_rfl) (by kernel_rfl) (fun _ _ _ h => h) (Or.inl ⟨by rfl, ?gy33⟩) (by assumption) ?_
          case gy33 => (intro w' hSw; go_simp; try with_reducible rfl)
          try simp only [Act.put, List.setIfInBounds_toArray, List.set_cons_zero, List.set_cons_succ]
          refine wpAnyH_take (i := 18) (oi := { dst := some 3, op := _, type := _, pos := _, after := _, guard := none }) (v := ?gv34) rfl (by kernel_rfl) (by kernel_rfl) (by kernel_rfl) (fun _ _ _ h => h) (Or.inl ⟨by rfl, ?gy34⟩) (by assumption) ?_
          case gy34 => (intro w' hSw; go_simp; try with_reducible rfl)
          try simp only [Act.put, List.setIfInBounds_toArray, List.set_cons_zero, List.set_cons_succ]
          refine wpAnyH_done (by kernel_rfl) (NoPanic.normal ?_) _
          rotate_left
          all_goals
            go_wp2
            go_roundw
            case rel => exact ⟨k + 1, by omega, by go_num, by rw [HST.out], below_tr hbw (by (repeat' (first | assumption | exact below_refl _ | refine bl_alloc ?_ _ | refine Below.setCell ?_ ?_ _ | refine below_draw ?_ | refine below_drewN ?_ _ | refine below_tr ?_ (by assumption))) <;> (first | omega | (simp; done) | (simp; omega)))⟩
            case measure => simp [RowKit.intOf]; omega
      · obtain rfl : k = g.length := by omega
        have HT := Lib.hid (show g.take g.length = g from List.take_length)
        go_wp2
        go_ret
        exact ⟨by rw [HT.out]; rfl, hbw⟩
end Go.Proofs.YthklgkgincebhaaGreatDoor.T6
