/- Fell's texts: a prop's line and Format by the program. -/
import Derived.Test.YthklgkgincebhaaGreatDoorYe
import Derived.Test.YthklgkgincebhaaGreatDoorQp
import Derived.Laws.IdiomStrings
import Derived.Laws.Concat
set_option linter.unusedSimpArgs false
set_option linter.unusedVariables false
namespace Go.Proofs.YthklgkgincebhaaGreatDoor.T6
open Go.RowKit Go.Lib Tx

theorem line_eqF (x y : Int) : bts (lnP ⟨⟨x, y⟩, false⟩) = bts (itoa x) ++ ⟨#[32]⟩ ++ bts (itoa y) := by
  have e : (⟨#[32]⟩ : ByteArray) = bts [32] := rfl
  rw [e, ba_app, ba_app]
  unfold lnP wsP
  simp [joinZ]
theorem line_eqT (x y : Int) : bts (lnP ⟨⟨x, y⟩, true⟩) = bts (itoa x) ++ ⟨#[32]⟩ ++ bts (itoa y) ++ ⟨#[32, 119, 111, 111, 100]⟩ := by
  have e : (⟨#[32]⟩ : ByteArray) = bts [32] := rfl
  have e2 : (⟨#[32, 119, 111, 111, 100]⟩ : ByteArray) = bts [32, 119, 111, 111, 100] := rfl
  rw [e, e2, ba_app, ba_app, ba_app]
  unfold lnP wsP
  simp [joinZ, wdS]
set_option maxHeartbeats 4000000 in
set_option maxRecDepth 20000 in
theorem p_lineOf (x : Pr) (w : World) (l0 : -9223372036854775808 ≤ x.a.x) (l1 : x.a.x ≤ 9223372036854775807) (d0 : -9223372036854775808 ≤ x.a.y) (d1 : x.a.y ≤ 9223372036854775807) (hL : LdW w) :
    Calls Tryz.prog 16 #[prV x] w fun e w' => e = .returned (.string (bts (lnP x))) ∧ Below w.heap.size w w' := by
  have x0 := Blk.new w 34 #[.int .i64 x.a.x, .int .i64 x.a.y, .bool x.wd]
  have B0 := bl_alloc (below_refl w) (.cells #[.int .i64 x.a.x, .int .i64 x.a.y, .bool x.wd] 34)
  have q0 := x0.cell 0
  have q1 := x0.cell 1
  have q2 := x0.cell 2
  simp only [List.getElem?_toArray, List.getElem?_cons_zero, List.getElem?_cons_succ] at q0 q1 q2
  have HI1 := Lib.hid (fun W (h : Below w.heap.size w W) => c_ItoaV x.a.x W l0 l1 (hL.on h).tab)
  have HI2 := Lib.hid (fun W (h : Below w.heap.size w W) => c_ItoaV x.a.y W d0 d1 (hL.on h).tab)
  have hs1 : (bts (itoa x.a.x)).size ≤ 21 := by have := itoa_len l0 l1; rw [bts_size]; omega
  have hs2 : (bts (itoa x.a.y)).size ≤ 21 := by have := itoa_len d0 d1; rw [bts_size]; omega
  obtain ⟨⟨X0, Y0⟩, WD⟩ := x
  dsimp only at *
  have HVF := Lib.hid (line_eqF X0 Y0)
  have HVT := Lib.hid (line_eqT X0 Y0)
  clear l0 l1 d0 d1
  generalize bts (itoa X0) = S1 at *
  generalize bts (itoa Y0) = S2 at *
  have z1 : ¬ 9223372036854775807 < S1.size + 1 := by omega
  have z2 : ¬ 9223372036854775807 < S1.size + 1 + S2.size := by omega
  have z3 : ¬ 9223372036854775807 < S1.size + 1 + S2.size + 5 := by omega
  have hlw : w.heap.size < (w.alloc (.cells #[.int .i64 X0, .int .i64 Y0, .bool WD] 34)).heap.size := by simp
  cases WD
  · rw [HVF.out]
    clear HVF HVT
    go_enter Tryz.func16, Tryz.ntmps16
    go_wp2_with fail
    generalize w.alloc (.cells #[.int .i64 X0, .int .i64 Y0, .bool false] 34) = W1 at *
    refine wp_region_noPanic ?_
    refine wp_region_held_drew (S := (fun w' => (∀ b o, b < W1.heap.size → w'.cell? ⟨b, o, none⟩ = W1.cell? ⟨b, o, none⟩) ∧ (∀ b o, b < W1.heap.size → w'.frozen? ⟨b, o, none⟩ = W1.frozen? ⟨b, o, none⟩) ∧ Below W1.heap.size W1 w')) (by kernel_rfl) (kq_draw kq_refl) (fun hS0 => ?_)
    refine wpAnyH_take (i := 0) (oi := { dst := some 4, op := _, type := _, pos := _, after := _, guard := none }) (v := ?gv1) rfl (by kernel_rfl) (by kernel_rfl) (by kernel_rfl) (fun _ _ _ h => h) (Or.inl ⟨by rfl, ?gy1⟩) (by assumption) ?_
    case gy1 => (intro w' hSw; go_simp; try with_reducible rfl)
    try simp only [Act.put, List.setIfInBounds_toArray, List.set_cons_zero, List.set_cons_succ]
    refine wpAnyH_take (i := 1) (oi := { dst := some 5, op := _, type := _, pos := _, after := _, guard := none }) (v := ?gv2) rfl (by kernel_rfl) (by kernel_rfl) (by kernel_rfl) (fun _ _ _ h => h) (Or.inl ⟨by rfl, ?gy2⟩) (by assumption) ?_
    case gy2 => (intro w' hSw; go_simp; try with_reducible rfl)
    try simp only [Act.put, List.setIfInBounds_toArray, List.set_cons_zero, List.set_cons_succ]
    refine wpAnyH_take (i := 2) (oi := { dst := some 6, op := _, type := _, pos := _, after := _, guard := none }) (v := ?gv3) rfl (by kernel_rfl) (by kernel_rfl) (by kernel_rfl) (fun _ _ _ h => h) (Or.inl ⟨by rfl, ?gy3⟩) (by assumption) ?_
    case gy3 => (intro w' hSw; go_simp; try with_reducible rfl)
    try simp only [Act.put, List.setIfInBounds_toArray, List.set_cons_zero, List.set_cons_succ]
    refine wpAnyH_take (i := 5) (oi := { dst := some 9, op := _, type := _, pos := _, after := _, guard := none }) (v := ?gv4) rfl (by kernel_rfl) (by kernel_rfl) (by kernel_rfl) (fun _ _ _ h => h) (Or.inl ⟨by rfl, ?gy4⟩) (by assumption) ?_
    case gy4 => (intro w' hSw; go_simp; try with_reducible rfl)
    try simp only [Act.put, List.setIfInBounds_toArray, List.set_cons_zero, List.set_cons_succ]
    refine wpAnyH_take (i := 6) (oi := { dst := some 10, op := _, type := _, pos := _, after := _, guard := none }) (v := ?gv5) rfl (by kernel_rfl) (by kernel_rfl) (by kernel_rfl) (fun _ _ _ h => h) (Or.inl ⟨by rfl, ?gy5⟩) (by assumption) ?_
    case gy5 => (intro w' hSw; go_simp; try with_reducible rfl)
    try simp only [Act.put, List.setIfInBounds_toArray, List.set_cons_zero, List.set_cons_succ]
    refine wpAnyH_take (i := 7) (oi := { dst := some 11, op := _, type := _, pos := _, after := _, guard := none }) (v := ?gv6) rfl (by kernel_rfl) (by kernel_rfl) (by kernel_rfl) (fun _ _ _ h => h) (Or.inl ⟨by rfl, ?gy6⟩) (by assumption) ?_
    case gy6 => (intro w' hSw; go_simp; try with_reducible rfl)
    try simp only [Act.put, List.setIfInBounds_toArray, List.set_cons_zero, List.set_cons_succ]
    refine wpAnyH_ready (rs := [3]) (by kernel_rfl) (by simp) ?_
    refine AllReadyH.cons rfl (fun K hK => ?_) AllReadyH.nil
    go_simp
    (go_at_call 34; ((with_reducible refine (HI1.out _ (below_tr B0 (by (repeat' (first | assumption | exact below_refl _ | refine bl_alloc ?_ _ | refine Below.setCell ?_ ?_ _ | refine below_draw ?_ | refine below_drewN ?_ _ | refine below_tr ?_ (by assumption))) <;> (first | omega | (simp; done) | (simp; omega))))).mono ?_); rintro e w3 ⟨rfl, hb3⟩; obtain ⟨hc3, hf3⟩ := bcell hb3; have hz3 := hb3.size; (try simp [sz_drew, sz_drewN] at hz3); (try simp only [sz_drew, sz_drewN] at hc3 hf3)))
    refine hK.out _ _ (by ((show Kq W1 _); (repeat' (first | assumption | exact kq_refl | refine kq_draw ?_ | refine kq_drewN ?_ | refine kq_alloc ?_ | refine kq_set ?_ ?_ | refine kq_step ?_ (by assumption))); (all_goals (first | omega | (simp; omega))))) (fun hS1 => ?_)
    clear hK K
    try simp only [Act.put, List.setIfInBounds_toArray, List.set_cons_zero, List.set_cons_succ]
    refine wpAnyH_take (i := 4) (oi := { dst := some 8, op := _, type := _, pos := _, after := _, guard := none }) (v := ?gv7) rfl (by kernel_rfl) (by kernel_rfl) (by kernel_rfl) (fun _ _ _ h => h) (Or.inl ⟨by rfl, ?gy7⟩) (by assumption) ?_
    case gy7 => (intro w' hSw; go_simp; try with_reducible rfl)
    try simp only [Act.put, List.setIfInBounds_toArray, List.set_cons_zero, List.set_cons_succ]
    refine wpAnyH_ready (rs := [8]) (by kernel_rfl) (by simp) ?_
    refine AllReadyH.cons rfl (fun K hK => ?_) AllReadyH.nil
    go_simp
    (go_at_call 34; ((with_reducible refine (HI2.out _ (below_tr B0 (by (repeat' (first | assumption | exact below_refl _ | refine bl_alloc ?_ _ | refine Below.setCell ?_ ?_ _ | refine below_draw ?_ | refine below_drewN ?_ _ | refine below_tr ?_ (by assumption))) <;> (first | omega | (simp; done) | (simp; omega))))).mono ?_); rintro e w4 ⟨rfl, hb4⟩; obtain ⟨hc4, hf4⟩ := bcell hb4; have hz4 := hb4.size; (try simp [sz_drew, sz_drewN] at hz4); (try simp only [sz_drew, sz_drewN] at hc4 hf4)))
    refine hK.out _ _ (by ((show Kq W1 _); (repeat' (first | assumption | exact kq_refl | refine kq_draw ?_ | refine kq_drewN ?_ | refine kq_alloc ?_ | refine kq_set ?_ ?_ | refine kq_step ?_ (by assumption))); (all_goals (first | omega | (simp; omega))))) (fun hS2 => ?_)
    clear hK K
    try simp only [Act.put, List.setIfInBounds_toArray, List.set_cons_zero, List.set_cons_succ]
    refine wpAnyH_take (i := 9) (oi := { dst := some 13, op := _, type := _, pos := _, after := _, guard := none }) (v := ?gv8) rfl (by kernel_rfl) (by kernel_rfl) (by kernel_rfl) (fun _ _ _ h => h) (Or.inl ⟨by rfl, ?gy8⟩) (by assumption) ?_
    case gy8 => (intro w' hSw; go_simp; try with_reducible rfl)
    try simp only [Act.put, List.setIfInBounds_toArray, List.set_cons_zero, List.set_cons_succ]
    refine wpAnyH_take (i := 10) (oi := { dst := some 3, op := _, type := _, pos := _, after := _, guard := none }) (v := ?gv9) rfl (by kernel_rfl) (by kernel_rfl) (by kernel_rfl) (fun _ _ _ h => h) (Or.inl ⟨by rfl, ?gy9⟩) (by assumption) ?_
    case gy9 => (intro w' hSw; go_simp; try with_reducible rfl)
    try simp only [Act.put, List.setIfInBounds_toArray, List.set_cons_zero, List.set_cons_succ]
    refine wpAnyH_done (by kernel_rfl) (NoPanic.normal ?_) _
    rotate_left
    all_goals
      go_wp2
      go_ret
      exact ⟨rfl, below_tr B0 (by (repeat' (first | assumption | exact below_refl _ | refine bl_alloc ?_ _ | refine Below.setCell ?_ ?_ _ | refine below_draw ?_ | refine below_drewN ?_ _ | refine below_tr ?_ (by assumption))) <;> (first | omega | (simp; done) | (simp; omega)))⟩
  · rw [HVT.out]
    clear HVF HVT
    go_enter Tryz.func16, Tryz.ntmps16
    go_wp2_with fail
    generalize w.alloc (.cells #[.int .i64 X0, .int .i64 Y0, .bool true] 34) = W1 at *
    refine wp_region_noPanic ?_
    refine wp_region_held_drew (S := (fun w' => (∀ b o, b < W1.heap.size → w'.cell? ⟨b, o, none⟩ = W1.cell? ⟨b, o, none⟩) ∧ (∀ b o, b < W1.heap.size → w'.frozen? ⟨b, o, none⟩ = W1.frozen? ⟨b, o, none⟩) ∧ Below W1.heap.size W1 w')) (by kernel_rfl) (kq_draw kq_refl) (fun hS0 => ?_)
    refine wpAnyH_take (i := 0) (oi := { dst := some 4, op := _, type := _, pos := _, after := _, guard := none }) (v := ?gv10) rfl (by kernel_rfl) (by kernel_rfl) (by kernel_rfl) (fun _ _ _ h => h) (Or.inl ⟨by rfl, ?gy10⟩) (by assumption) ?_
    case gy10 => (intro w' hSw; go_simp; try with_reducible rfl)
    try simp only [Act.put, List.setIfInBounds_toArray, List.set_cons_zero, List.set_cons_succ]
    refine wpAnyH_take (i := 1) (oi := { dst := some 5, op := _, type := _, pos := _, after := _, guard := none }) (v := ?gv11) rfl (by kernel_rfl) (by kernel_rfl) (by kernel_rfl) (fun _ _ _ h => h) (Or.inl ⟨by rfl, ?gy11⟩) (by assumption) ?_
    case gy11 => (intro w' hSw; go_simp; try with_reducible rfl)
    try simp only [Act.put, List.setIfInBounds_toArray, List.set_cons_zero, List.set_cons_succ]
    refine wpAnyH_take (i := 2) (oi := { dst := some 6, op := _, type := _, pos := _, after := _, guard := none }) (v := ?gv12) rfl (by kernel_rfl) (by kernel_rfl) (by kernel_rfl) (fun _ _ _ h => h) (Or.inl ⟨by rfl, ?gy12⟩) (by assumption) ?_
    case gy12 => (intro w' hSw; go_simp; try with_reducible rfl)
    try simp only [Act.put, List.setIfInBounds_toArray, List.set_cons_zero, List.set_cons_succ]
    refine wpAnyH_take (i := 5) (oi := { dst := some 9, op := _, type := _, pos := _, after := _, guard := none }) (v := ?gv13) rfl (by kernel_rfl) (by kernel_rfl) (by kernel_rfl) (fun _ _ _ h => h) (Or.inl ⟨by rfl, ?gy13⟩) (by assumption) ?_
    case gy13 => (intro w' hSw; go_simp; try with_reducible rfl)
    try simp only [Act.put, List.setIfInBounds_toArray, List.set_cons_zero, List.set_cons_succ]
    refine wpAnyH_take (i := 6) (oi := { dst := some 10, op := _, type := _, pos := _, after := _, guard := none }) (v := ?gv14) rfl (by kernel_rfl) (by kernel_rfl) (by kernel_rfl) (fun _ _ _ h => h) (Or.inl ⟨by rfl, ?gy14⟩) (by assumption) ?_
    case gy14 => (intro w' hSw; go_simp; try with_reducible rfl)
    try simp only [Act.put, List.setIfInBounds_toArray, List.set_cons_zero, List.set_cons_succ]
    refine wpAnyH_take (i := 7) (oi := { dst := some 11, op := _, type := _, pos := _, after := _, guard := none }) (v := ?gv15) rfl (by kernel_rfl) (by kernel_rfl) (by kernel_rfl) (fun _ _ _ h => h) (Or.inl ⟨by rfl, ?gy15⟩) (by assumption) ?_
    case gy15 => (intro w' hSw; go_simp; try with_reducible rfl)
    try simp only [Act.put, List.setIfInBounds_toArray, List.set_cons_zero, List.set_cons_succ]
    refine wpAnyH_ready (rs := [3]) (by kernel_rfl) (by simp) ?_
    refine AllReadyH.cons rfl (fun K hK => ?_) AllReadyH.nil
    go_simp
    (go_at_call 34; ((with_reducible refine (HI1.out _ (below_tr B0 (by (repeat' (first | assumption | exact below_refl _ | refine bl_alloc ?_ _ | refine Below.setCell ?_ ?_ _ | refine below_draw ?_ | refine below_drewN ?_ _ | refine below_tr ?_ (by assumption))) <;> (first | omega | (simp; done) | (simp; omega))))).mono ?_); rintro e w3 ⟨rfl, hb3⟩; obtain ⟨hc3, hf3⟩ := bcell hb3; have hz3 := hb3.size; (try simp [sz_drew, sz_drewN] at hz3); (try simp only [sz_drew, sz_drewN] at hc3 hf3)))
    refine hK.out _ _ (by ((show Kq W1 _); (repeat' (first | assumption | exact kq_refl | refine kq_draw ?_ | refine kq_drewN ?_ | refine kq_alloc ?_ | refine kq_set ?_ ?_ | refine kq_step ?_ (by assumption))); (all_goals (first | omega | (simp; omega))))) (fun hS1 => ?_)
    clear hK K
    try simp only [Act.put, List.setIfInBounds_toArray, List.set_cons_zero, List.set_cons_succ]
    refine wpAnyH_take (i := 4) (oi := { dst := some 8, op := _, type := _, pos := _, after := _, guard := none }) (v := ?gv16) rfl (by kernel_rfl) (by kernel_rfl) (by kernel_rfl) (fun _ _ _ h => h) (Or.inl ⟨by rfl, ?gy16⟩) (by assumption) ?_
    case gy16 => (intro w' hSw; go_simp; try with_reducible rfl)
    try simp only [Act.put, List.setIfInBounds_toArray, List.set_cons_zero, List.set_cons_succ]
    refine wpAnyH_ready (rs := [8]) (by kernel_rfl) (by simp) ?_
    refine AllReadyH.cons rfl (fun K hK => ?_) AllReadyH.nil
    go_simp
    (go_at_call 34; ((with_reducible refine (HI2.out _ (below_tr B0 (by (repeat' (first | assumption | exact below_refl _ | refine bl_alloc ?_ _ | refine Below.setCell ?_ ?_ _ | refine below_draw ?_ | refine below_drewN ?_ _ | refine below_tr ?_ (by assumption))) <;> (first | omega | (simp; done) | (simp; omega))))).mono ?_); rintro e w4 ⟨rfl, hb4⟩; obtain ⟨hc4, hf4⟩ := bcell hb4; have hz4 := hb4.size; (try simp [sz_drew, sz_drewN] at hz4); (try simp only [sz_drew, sz_drewN] at hc4 hf4)))
    refine hK.out _ _ (by ((show Kq W1 _); (repeat' (first | assumption | exact kq_refl | refine kq_draw ?_ | refine kq_drewN ?_ | refine kq_alloc ?_ | refine kq_set ?_ ?_ | refine kq_step ?_ (by assumption))); (all_goals (first | omega | (simp; omega))))) (fun hS2 => ?_)
    clear hK K
    try simp only [Act.put, List.setIfInBounds_toArray, List.set_cons_zero, List.set_cons_succ]
    refine wpAnyH_take (i := 9) (oi := { dst := some 13, op := _, type := _, pos := _, after := _, guard := none }) (v := ?gv17) rfl (by kernel_rfl) (by kernel_rfl) (by kernel_rfl) (fun _ _ _ h => h) (Or.inl ⟨by rfl, ?gy17⟩) (by assumption) ?_
    case gy17 => (intro w' hSw; go_simp; try with_reducible rfl)
    try simp only [Act.put, List.setIfInBounds_toArray, List.set_cons_zero, List.set_cons_succ]
    refine wpAnyH_take (i := 10) (oi := { dst := some 3, op := _, type := _, pos := _, after := _, guard := none }) (v := ?gv18) rfl (by kernel_rfl) (by kernel_rfl) (by kernel_rfl) (fun _ _ _ h => h) (Or.inl ⟨by rfl, ?gy18⟩) (by assumption) ?_
    case gy18 => (intro w' hSw; go_simp; try with_reducible rfl)
    try simp only [Act.put, List.setIfInBounds_toArray, List.set_cons_zero, List.set_cons_succ]
    refine wpAnyH_done (by kernel_rfl) (NoPanic.normal ?_) _
    rotate_left
    all_goals
      go_wp2
      go_ret
      exact ⟨rfl, below_tr B0 (by (repeat' (first | assumption | exact below_refl _ | refine bl_alloc ?_ _ | refine Below.setCell ?_ ?_ _ | refine below_draw ?_ | refine below_drewN ?_ _ | refine below_tr ?_ (by assumption))) <;> (first | omega | (simp; done) | (simp; omega)))⟩
theorem is_below {T e : TypeId} {B b : Nat} {bs : List Value} {w w' : World} (h : Lib.IsBuilder T e B b bs w) (hb : Below w.heap.size w w') : Lib.IsBuilder T e B b bs w' := by
  have q : ∀ p, Lib.BuilderAt T e B b p bs w → Lib.BuilderAt T e B b p bs w' := fun p h => by
    have hlt := h.lt
    obtain ⟨h1, v, h2, h3, h4⟩ := h
    exact ⟨h1, v, (hb.block b hlt).trans h2, own_on h3 hb, h4⟩
  rcases h with h | h
  · exact .inl (q _ h)
  · exact .inr (q _ h)
theorem p_ValidV {g : List Pr} {b : Bool} (h : vP g = b) {A : Option Addr} {c : Nat} {w : World} (hl : g.length ≤ 100000) (hR : Rd Pr.cs 3 w A g) :
    Calls Tryz.prog 14 #[.slice A g.length c] w fun e w' => e = .returned (.bool b) ∧ Below w.heap.size w w' := h ▸ p_Valid A g c w hl hR
set_option maxHeartbeats 2000000 in
set_option maxRecDepth 20000 in
theorem p_FormatF (A : Option Addr) (g : List Pr) (c : Nat) (w : World) (hl : g.length ≤ 100000) (hL : LdW w) (hR : Rd Pr.cs 3 w A g) :
    Calls Tryz.prog 5 #[.slice A g.length c] w fun e w' => e = .returned (.string (fmF g)) ∧ Below w.heap.size w w' := by
  cases hv : vP g
  · have H2 := Lib.hid (p_ValidV (c := c) hv hl hR)
    have HF := Lib.hid (show fmF g = ⟨#[]⟩ by unfold fmF; rw [hv]; rfl)
    rw [HF.out]
    clear hv
    go_enter Tryz.func5, Tryz.ntmps5
    go_wp2_with (go_at_call 14; ((with_reducible refine (H2.out).mono ?_); rintro e w1 ⟨rfl, hb1⟩; obtain ⟨hc1, hf1⟩ := bcell hb1; have hz1 := hb1.size; (try simp [sz_drew, sz_drewN] at hz1); (try simp only [sz_drew, sz_drewN] at hc1 hf1)))
    go_ret
    exact ⟨rfl, hb1⟩
  · have HF := Lib.hid (show fmF g = bts (fmtZ lnP g) by unfold fmF; rw [hv]; rfl)
    have H2 := Lib.hid (p_ValidV (c := c) hv hl hR)
    have HS := Lib.hid (vP_spot hv)
    have h64 : g.length ≤ 24 := vP_len hv
    rw [HF.out]
    clear hv HF
    go_enter Tryz.func5, Tryz.ntmps5
    go_wp2_with (go_at_call 14; ((with_reducible refine (H2.out).mono ?_); rintro e w1 ⟨rfl, hb1⟩; obtain ⟨hc1, hf1⟩ := bcell hb1; have hz1 := hb1.size; (try simp [sz_drew, sz_drewN] at hz1); (try simp only [sz_drew, sz_drewN] at hc1 hf1)))
    have hbs := hb1.size
    have HI := Lib.fresh_isBuilder 45 5 w1
    go_loopw [11] (fun i wr => ∃ k : Nat, k ≤ g.length ∧ i = .int .i64 k ∧ Lib.IsBuilder 45 5 w1.heap.size w1.heap.size (Lib.byteCells (fmtZ lnP (g.take k))) wr ∧ Below w1.heap.size w1 wr) (fun i _ => g.length - (RowKit.intOf i).toNat)
    case atStart => exact ⟨0, by omega, rfl, HI, bl_alloc (below_refl _) _⟩
    case round =>
      obtain ⟨k, hk, rfl, hbd, hbw⟩ := hrel
      have hbvs := hbw.size
      have hbw0 := below_tr hb1 hbw
      by_cases hlt : k < g.length
      · have k0 : (0 : Int) ≤ (k : Int) := Int.natCast_nonneg _
        have k1 : (k : Int) < (g.length : Int) := by omega
        obtain ⟨x, b, off, hx, rfl, hbl, c0, c1, c2⟩ := rdP (hR.on hbw0) hlt
        obtain ⟨x1, x2, x3, x4⟩ := isS_bd (HS.out x (List.mem_of_getElem? hx))
        have hln := lnP_len (HS.out x (List.mem_of_getElem? hx))
        have HLN := Lib.hid (fun W (h : Below w.heap.size w W) => p_lineOf x W (by omega) (by omega) (by omega) (by omega) (hL.on h))
        have HST := Lib.hid (fmF_step hx)
        have hls : (bts (lnP x)).size ≤ 100 := by rw [bts_size]; omega
        have hlf : (fmtZ lnP (g.take k)).length ≤ 1464 := by
          have := fmF_len (g := g.take k) fun y hy => HS.out y (List.mem_of_mem_take hy)
          rw [List.length_take] at this; omega
        have z1 : ¬ 9223372036854775807 < (bts (lnP x)).size + 1 := by omega
        have HWS := Lib.hid (fun W (h : Below wr.heap.size wr W) => p_WriteString w1.heap.size w1.heap.size (Lib.byteCells (fmtZ lnP (g.take k))) (bts (lnP x) ++ ⟨#[10]⟩) W (is_below hbd h) (by simp only [Lib.byteCells, List.length_map, ByteArray.size_append]; show _ + (_ + 1) ≤ _; omega) (Nat.le_trans hbvs h.size))
        have HSB := Lib.hid (show Lib.byteCells (fmtZ lnP (g.take (k + 1))) = Lib.byteCells (fmtZ lnP (g.take k)) ++ Lib.strCells (bts (lnP x) ++ ⟨#[10]⟩) by
          rw [HST.out, Lib.byteCells_append]
          congr 1)
        clear x1 x2 x3 x4 hx hbd hln
        go_wp2_with (first
          | (go_at_call 16; ((with_reducible refine (HLN.out _ (bl_alloc hbw0 _)).mono ?_); rintro e w3 ⟨rfl, hb3⟩; have hr3 := below_tr (bl_alloc (below_refl wr) _) hb3))
          | (go_at_call 15; ((with_reducible refine (HWS.out _ hr3).mono ?_); rintro e w4 ⟨rfl, hbd4, hb4⟩)))
        go_roundw
        case rel => exact ⟨k + 1, by omega, by go_num, HSB.out ▸ .inr hbd4, (hbw.trans (hr3.mono hbvs)).trans hb4⟩
        case measure => simp [RowKit.intOf]; omega
      · obtain rfl : k = g.length := by omega
        rw [List.take_length] at hbd
        have HSR := Lib.hid (Tryz.Builder_String_any w1.heap.size w1.heap.size (fmtZ lnP g) wr hbd hbw.size)
        go_wp2_with (go_at_call 17; ((with_reducible refine HSR.out.mono ?_); rintro e w3 ⟨rfl, hb3⟩))
        go_ret
        exact ⟨rfl, below_tr hb1 (hbw.trans hb3)⟩
end Go.Proofs.YthklgkgincebhaaGreatDoor.T6
