/- Texts: numerals by the reference: Digits. -/
import Derived.Test.YthklgkgincebhaaGreatDoorQd
import Derived.Laws.IdiomStrings
import Derived.Laws.Concat
import Derived.Deep.DeepCutAuto
set_option linter.unusedSimpArgs false
set_option linter.unusedVariables false
namespace Go.Proofs.YthklgkgincebhaaGreatDoor.T6
open Go.RowKit Go.Lib Tx

theorem fits_wrapU {n : Int} (h : -9223372036854775808 ≤ n ∧ n ≤ 9223372036854775807) : IntKind.i64.wrap n = n := fits_wrap h
theorem conv1 (W : World) (t : TypeId) (b : UInt8) : (convert 43 9 (.slice (some ⟨W.heap.size, 0, none⟩) 1 1)).run Tryz.prog (W.alloc (.cells #[.int .u8 (b.toNat : Int)] t)) = .ok (.string ⟨#[b]⟩) (W.alloc (.cells #[.int .u8 (b.toNat : Int)] t)) := by
  have h := run_convert_bytes_back (P := Tryz.prog) (W.alloc (.cells #[.int .u8 (b.toNat : Int)] t)) 43 9 5 ⟨W.heap.size, 0, none⟩ 1 [b] Tryz.underlying43 Tryz.underlying5 Tryz.underlying9 (fun j hj => by
    have hj0 : j = 0 := by simp at hj; omega
    subst hj0
    have := (Blk.new W t #[.int .u8 (b.toNat : Int)]).cell 0
    first | (simp [Addr.add]; done) | simpa [Addr.add] using this)
  exact h
theorem decD_len (u : Nat) (h : u < 18446744073709551616) : (decDigits u).length ≤ 20 := by
  have go : ∀ (k u : Nat), u < 10 ^ (k + 1) → (decDigits u).length ≤ k + 1 := fun k => by
    induction k with
    | zero => intro u h; rw [dec_one (by omega)]; simp
    | succ k ih =>
      intro u h
      by_cases hu : u < 10
      · rw [dec_one hu]; simp
      · rw [dec_more hu]
        have := ih (u / 10) (by rw [Nat.pow_succ] at h; omega)
        simp; omega
  exact go 19 u (by omega)
theorem conv_dg (m : Nat) (h : m < 10) (W : World) : (convert 43 9 (.slice (some ⟨W.heap.size, 0, none⟩) 1 1)).run Tryz.prog (W.alloc (.cells #[.int .u8 (48 + (m : Int))] 5)) = .ok (.string ⟨#[dgB m]⟩) (W.alloc (.cells #[.int .u8 (48 + (m : Int))] 5)) := by
  have := conv1 W 5 (dgB m)
  rwa [dgB_nat h] at this
theorem conv_blk (m : Nat) (h : m < 10) {W : World} {g : Nat} {t : TypeId} (hb : Blk W g t #[.int .u8 (48 + (m : Int))]) : (convert 43 9 (.slice (some ⟨g, 0, none⟩) 1 1)).run Tryz.prog W = .ok (.string ⟨#[dgB m]⟩) W := by
  have h2 := run_convert_bytes_back (P := Tryz.prog) W 43 9 5 ⟨g, 0, none⟩ 1 [dgB m] Tryz.underlying43 Tryz.underlying5 Tryz.underlying9 (fun j hj => by
    have hj0 : j = 0 := by simp at hj; omega
    subst hj0
    have := hb.cell 0
    first | (simp [Addr.add, dgB_nat h]; done) | simpa [Addr.add, dgB_nat h] using this)
  exact h2
theorem itoa_min : itoa (-9223372036854775808) = [45, 57, 50, 50, 51, 51, 55, 50, 48, 51, 54, 56, 53, 52, 55, 55, 53, 56, 48, 56] := by decide +kernel
theorem w8 (m : Nat) (h : m < 10) : IntKind.u8.wrap (48 + (m : Int)) = 48 + (m : Int) := by
  simp [IntKind.wrap, IntKind.bits, IntKind.signed]; omega
set_option maxHeartbeats 2000000 in
set_option maxRecDepth 20000 in
theorem r_DigitsN (m : Nat) : ∀ w, m ≤ 9223372036854775807 → Calls Tryz.prog 23 #[.int .i64 (m : Int)] w fun e w' => e = .returned (.string ⟨(decDigits m).toArray⟩) ∧ Below w.heap.size w w' := by
  induction m using Nat.strongRecOn with
  | _ m ih =>
    intro w hm
    have m0 : (0 : Int) ≤ (m : Int) := Int.natCast_nonneg _
    have mm : ((m : Int) == -9223372036854775808) = false := beq_eq_false_iff_ne.2 (by omega)
    have mn : ¬ ((m : Int) < 0) := by omega
    by_cases h : m < 10
    · have h' : (m : Int) < 10 := by omega
      have w1 : IntKind.i64.wrap (48 + (m : Int)) = 48 + (m : Int) := fits_wrapU ⟨by omega, by omega⟩
      have w2 := w8 m h
      have HCV := conv_dg m h w
      rw [dec_one h]
      clear ih hm
      go_enter Tryz.func23, Tryz.ntmps23
      go_wp2
      go_ret
      exact ⟨rfl, by (repeat' (first | assumption | exact below_refl _ | refine bl_alloc ?_ _ | refine Below.setCell ?_ ?_ _ | refine below_draw ?_ | refine below_drewN ?_ _ | refine below_tr ?_ (by assumption))) <;> (first | omega | (simp; done) | (simp; omega))⟩
    · have h' : ¬ (m : Int) < 10 := by omega
      have hq : (m : Int) / 10 = ((m / 10 : Nat) : Int) := by omega
      have hr : (m : Int) % 10 = ((m % 10 : Nat) : Int) := by omega
      have htd : Int.tdiv (m : Int) 10 = ((m / 10 : Nat) : Int) := by rw [Int.tdiv_eq_ediv_of_nonneg m0]; exact hq
      have htm : Int.tmod (m : Int) 10 = ((m % 10 : Nat) : Int) := by rw [Int.tmod_eq_emod_of_nonneg m0]; exact hr
      have hlt : m % 10 < 10 := Nat.mod_lt _ (by omega)
      have wq : IntKind.i64.wrap ((m / 10 : Nat) : Int) = ((m / 10 : Nat) : Int) := fits_wrapU ⟨by omega, by omega⟩
      have wr : IntKind.i64.wrap ((m % 10 : Nat) : Int) = ((m % 10 : Nat) : Int) := fits_wrapU ⟨by omega, by omega⟩
      have w1 : IntKind.i64.wrap (48 + ((m % 10 : Nat) : Int)) = 48 + ((m % 10 : Nat) : Int) := fits_wrapU ⟨by omega, by omega⟩
      have w2 := w8 (m % 10) hlt
      have HCV := conv_dg (m % 10) hlt
      have HCVd := fun W : World => conv_blk (m % 10) hlt (Blk.drew (Blk.new W 5 #[.int .u8 (48 + ((m % 10 : Nat) : Int))]))
      have HIH := Lib.hid (fun W => ih (m / 10) (by omega) W (by omega))
      have HD := Lib.hid (show (⟨(decDigits m).toArray⟩ : ByteArray) = ⟨(decDigits (m / 10)).toArray⟩ ++ ⟨#[dgB (m % 10)]⟩ by rw [dec_more h]; apply ByteArray.ext; simp [ByteArray.data_append])
      have hL := decD_len (m / 10) (by omega)
      rw [HD.out]
      clear ih hm
      generalize decDigits (m / 10) = DD at *
      generalize m / 10 = q at *
      generalize m % 10 = r at *
      have hLs : ¬ 9223372036854775807 < DD.length + 1 := by omega
      go_enter Tryz.func23, Tryz.ntmps23
      go_wp2_with fail
      refine wp_region_noPanic ?_
      refine wp_region_held_drew (S := (fun w' => (∀ b o, b < w.heap.size → w'.cell? ⟨b, o, none⟩ = w.cell? ⟨b, o, none⟩) ∧ (∀ b o, b < w.heap.size → w'.frozen? ⟨b, o, none⟩ = w.frozen? ⟨b, o, none⟩) ∧ Below w.heap.size w w')) (by kernel_rfl) (kq_draw kq_refl) (fun hS0 => ?_)
      refine wpAnyH_take (i := 0) (oi := { dst := some 18, op := _, type := _, pos := _, after := _, guard := none }) (v := ?gv1) rfl (by kernel_rfl) (by kernel_rfl) (by kernel_rfl) (fun _ _ _ h => h) (Or.inl ⟨by rfl, ?gy1⟩) (by assumption) ?_
      case gy1 => (intro w' hSw; go_simp; try with_reducible rfl)
      try simp only [Act.put, List.setIfInBounds_toArray, List.set_cons_zero, List.set_cons_succ]
      refine wpAnyH_take (i := 1) (oi := { dst := some 19, op := _, type := _, pos := _, after := _, guard := none }) (v := ?gv2) rfl (by kernel_rfl) (by kernel_rfl) (by kernel_rfl) (fun _ _ _ h => h) (Or.inl ⟨by rfl, ?gy2⟩) (by assumption) ?_
      case gy2 => (intro w' hSw; go_simp; try with_reducible rfl)
      try simp only [Act.put, List.setIfInBounds_toArray, List.set_cons_zero, List.set_cons_succ]
      refine wpAnyH_take (i := 3) (oi := { dst := some 21, op := _, type := _, pos := _, after := _, guard := none }) (v := ?gv3) rfl (by kernel_rfl) (by kernel_rfl) (by kernel_rfl) (fun _ _ _ h => h) (Or.inl ⟨by rfl, ?gy3⟩) (by assumption) ?_
      case gy3 => (intro w' hSw; go_simp; try with_reducible rfl)
      try simp only [Act.put, List.setIfInBounds_toArray, List.set_cons_zero, List.set_cons_succ]
      refine wpAnyH_take (i := 4) (oi := { dst := some 22, op := _, type := _, pos := _, after := _, guard := none }) (v := ?gv4) rfl (by kernel_rfl) (by kernel_rfl) (by kernel_rfl) (fun _ _ _ h => h) (Or.inl ⟨by rfl, ?gy4⟩) (by assumption) ?_
      case gy4 => (intro w' hSw; go_simp; try with_reducible rfl)
      try simp only [Act.put, List.setIfInBounds_toArray, List.set_cons_zero, List.set_cons_succ]
      refine wpAnyH_take (i := 5) (oi := { dst := some 23, op := _, type := _, pos := _, after := _, guard := none }) (v := ?gv5) rfl (by kernel_rfl) (by kernel_rfl) (by kernel_rfl) (fun _ _ _ h => h) (Or.inl ⟨by rfl, ?gy5⟩) (by assumption) ?_
      case gy5 => (intro w' hSw; go_simp; try with_reducible rfl)
      try simp only [Act.put, List.setIfInBounds_toArray, List.set_cons_zero, List.set_cons_succ]
      refine wpAnyH_take (i := 6) (oi := { dst := some 24, op := _, type := _, pos := _, after := _, guard := none }) (v := ?gv6) rfl (by kernel_rfl) (by kernel_rfl) (by kernel_rfl) (fun _ _ _ h => h) (Or.inl ⟨by rfl, ?gy6⟩) (by assumption) ?_
      case gy6 => (intro w' hSw; go_simp; try with_reducible rfl)
      try simp only [Act.put, List.setIfInBounds_toArray, List.set_cons_zero, List.set_cons_succ]
      refine wpAnyH_ready (rs := [2, 7]) (by kernel_rfl) (by simp) ?_
      refine AllReadyH.cons rfl (fun K hK => ?_) (AllReadyH.cons rfl (fun K hK => ?_) AllReadyH.nil)
      go_simp
      (go_at_call 23; ((with_reducible refine (HIH.out _).mono ?_); rintro e w3 ⟨rfl, hb3⟩; obtain ⟨hc3, hf3⟩ := bcell hb3; have hz3 := hb3.size; (try simp [sz_drew, sz_drewN] at hz3); (try simp only [sz_drew, sz_drewN] at hc3 hf3); (first | (have hcvB := conv_blk r hlt (Blk.below (Blk.new _ 5 #[.int .u8 (48 + (r : Int))]) hb3 (Blk.lt (Blk.new _ _ _)))) | (have hcvB := conv_blk r hlt (Blk.below (Blk.drew (Blk.new _ 5 #[.int .u8 (48 + (r : Int))])) hb3 (Blk.lt (Blk.drew (Blk.new _ _ _))))) | skip); (try simp only [sz_drew, sz_drewN] at hcvB)))
      refine hK.out _ _ (by ((show Kq w _); (repeat' (first | assumption | exact kq_refl | refine kq_draw ?_ | refine kq_drewN ?_ | refine kq_alloc ?_ | refine kq_set ?_ ?_ | refine kq_step ?_ (by assumption))); (all_goals (first | omega | (simp; omega))))) (fun hS1 => ?_)
      clear hK K
      try simp only [Act.put, List.setIfInBounds_toArray, List.set_cons_zero, List.set_cons_succ]
      refine wpAnyH_ready (rs := [7]) (by kernel_rfl) (by simp) ?_
      refine AllReadyH.cons rfl (fun K hK => ?_) AllReadyH.nil
      go_simp
      refine hK.out _ _ (by ((show Kq w _); (repeat' (first | assumption | exact kq_refl | refine kq_draw ?_ | refine kq_drewN ?_ | refine kq_alloc ?_ | refine kq_set ?_ ?_ | refine kq_step ?_ (by assumption))); (all_goals (first | omega | (simp; omega))))) (fun hS2 => ?_)
      clear hK K
      try simp only [Act.put, List.setIfInBounds_toArray, List.set_cons_zero, List.set_cons_succ]
      refine wpAnyH_ready (rs := [8]) (by kernel_rfl) (by simp) ?_
      refine AllReadyH.cons rfl (fun K hK => ?_) AllReadyH.nil
      go_simp
      refine hK.out _ _ (by ((show Kq w _); (repeat' (first | assumption | exact kq_refl | refine kq_draw ?_ | refine kq_drewN ?_ | refine kq_alloc ?_ | refine kq_set ?_ ?_ | refine kq_step ?_ (by assumption))); (all_goals (first | omega | (simp; omega))))) (fun hS3 => ?_)
      clear hK K
      try simp only [Act.put, List.setIfInBounds_toArray, List.set_cons_zero, List.set_cons_succ]
      refine wpAnyH_take (i := 9) (oi := { dst := some 27, op := _, type := _, pos := _, after := _, guard := none }) (v := ?gv7) rfl (by kernel_rfl) (by kernel_rfl) (by kernel_rfl) (fun _ _ _ h => h) (Or.inl ⟨by rfl, ?gy7⟩) (by assumption) ?_
      case gy7 => (intro w' hSw; go_simp; try with_reducible rfl)
      try simp only [Act.put, List.setIfInBounds_toArray, List.set_cons_zero, List.set_cons_succ]
      refine wpAnyH_take (i := 10) (oi := { dst := some 2, op := _, type := _, pos := _, after := _, guard := none }) (v := ?gv8) rfl (by kernel_rfl) (by kernel_rfl) (by kernel_rfl) (fun _ _ _ h => h) (Or.inl ⟨by rfl, ?gy8⟩) (by assumption) ?_
      case gy8 => (intro w' hSw; go_simp; try with_reducible rfl)
      try simp only [Act.put, List.setIfInBounds_toArray, List.set_cons_zero, List.set_cons_succ]
      refine wpAnyH_done (by kernel_rfl) (NoPanic.normal ?_) _
      rotate_left
      go_simp
      refine hK.out _ _ (by ((show Kq w _); (repeat' (first | assumption | exact kq_refl | refine kq_draw ?_ | refine kq_drewN ?_ | refine kq_alloc ?_ | refine kq_set ?_ ?_ | refine kq_step ?_ (by assumption))); (all_goals (first | omega | (simp; omega))))) (fun hS1 => ?_)
      clear hK K
      try simp only [Act.put, List.setIfInBounds_toArray, List.set_cons_zero, List.set_cons_succ]
      refine wpAnyH_ready (rs := [2, 8]) (by kernel_rfl) (by simp) ?_
      refine AllReadyH.cons rfl (fun K hK => ?_) (AllReadyH.cons rfl (fun K hK => ?_) AllReadyH.nil)
      go_simp
      (go_at_call 23; ((with_reducible refine (HIH.out _).mono ?_); rintro e w3 ⟨rfl, hb3⟩; obtain ⟨hc3, hf3⟩ := bcell hb3; have hz3 := hb3.size; (try simp [sz_drew, sz_drewN] at hz3); (try simp only [sz_drew, sz_drewN] at hc3 hf3); (first | (have hcvB := conv_blk r hlt (Blk.below (Blk.new _ 5 #[.int .u8 (48 + (r : Int))]) hb3 (Blk.lt (Blk.new _ _ _)))) | (have hcvB := conv_blk r hlt (Blk.below (Blk.drew (Blk.new _ 5 #[.int .u8 (48 + (r : Int))])) hb3 (Blk.lt (Blk.drew (Blk.new _ _ _))))) | skip); (try simp only [sz_drew, sz_drewN] at hcvB)))
      refine hK.out _ _ (by ((show Kq w _); (repeat' (first | assumption | exact kq_refl | refine kq_draw ?_ | refine kq_drewN ?_ | refine kq_alloc ?_ | refine kq_set ?_ ?_ | refine kq_step ?_ (by assumption))); (all_goals (first | omega | (simp; omega))))) (fun hS2 => ?_)
      clear hK K
      try simp only [Act.put, List.setIfInBounds_toArray, List.set_cons_zero, List.set_cons_succ]
      refine wpAnyH_ready (rs := [8]) (by kernel_rfl) (by simp) ?_
      refine AllReadyH.cons rfl (fun K hK => ?_) AllReadyH.nil
      go_simp
      refine hK.out _ _ (by ((show Kq w _); (repeat' (first | assumption | exact kq_refl | refine kq_draw ?_ | refine kq_drewN ?_ | refine kq_alloc ?_ | refine kq_set ?_ ?_ | refine kq_step ?_ (by assumption))); (all_goals (first | omega | (simp; omega))))) (fun hS3 => ?_)
      clear hK K
      try simp only [Act.put, List.setIfInBounds_toArray, List.set_cons_zero, List.set_cons_succ]
      refine wpAnyH_take (i := 9) (oi := { dst := some 27, op := _, type := _, pos := _, after := _, guard := none }) (v := ?gv9) rfl (by kernel_rfl) (by kernel_rfl) (by kernel_rfl) (fun _ _ _ h => h) (Or.inl ⟨by rfl, ?gy9⟩) (by assumption) ?_
      case gy9 => (intro w' hSw; go_simp; try with_reducible rfl)
      try simp only [Act.put, List.setIfInBounds_toArray, List.set_cons_zero, List.set_cons_succ]
      refine wpAnyH_take (i := 10) (oi := { dst := some 2, op := _, type := _, pos := _, after := _, guard := none }) (v := ?gv10) rfl (by kernel_rfl) (by kernel_rfl) (by kernel_rfl) (fun _ _ _ h => h) (Or.inl ⟨by rfl, ?gy10⟩) (by assumption) ?_
      case gy10 => (intro w' hSw; go_simp; try with_reducible rfl)
      try simp only [Act.put, List.setIfInBounds_toArray, List.set_cons_zero, List.set_cons_succ]
      refine wpAnyH_done (by kernel_rfl) (NoPanic.normal ?_) _
      rotate_left
      go_simp
      refine hK.out _ _ (by ((show Kq w _); (repeat' (first | assumption | exact kq_refl | refine kq_draw ?_ | refine kq_drewN ?_ | refine kq_alloc ?_ | refine kq_set ?_ ?_ | refine kq_step ?_ (by assumption))); (all_goals (first | omega | (simp; omega))))) (fun hS2 => ?_)
      clear hK K
      try simp only [Act.put, List.setIfInBounds_toArray, List.set_cons_zero, List.set_cons_succ]
      refine wpAnyH_ready (rs := [2]) (by kernel_rfl) (by simp) ?_
      refine AllReadyH.cons rfl (fun K hK => ?_) AllReadyH.nil
      go_simp
      (go_at_call 23; ((with_reducible refine (HIH.out _).mono ?_); rintro e w3 ⟨rfl, hb3⟩; obtain ⟨hc3, hf3⟩ := bcell hb3; have hz3 := hb3.size; (try simp [sz_drew, sz_drewN] at hz3); (try simp only [sz_drew, sz_drewN] at hc3 hf3); (first | (have hcvB := conv_blk r hlt (Blk.below (Blk.new _ 5 #[.int .u8 (48 + (r : Int))]) hb3 (Blk.lt (Blk.new _ _ _)))) | (have hcvB := conv_blk r hlt (Blk.below (Blk.drew (Blk.new _ 5 #[.int .u8 (48 + (r : Int))])) hb3 (Blk.lt (Blk.drew (Blk.new _ _ _))))) | skip); (try simp only [sz_drew, sz_drewN] at hcvB)))
      refine hK.out _ _ (by ((show Kq w _); (repeat' (first | assumption | exact kq_refl | refine kq_draw ?_ | refine kq_drewN ?_ | refine kq_alloc ?_ | refine kq_set ?_ ?_ | refine kq_step ?_ (by assumption))); (all_goals (first | omega | (simp; omega))))) (fun hS3 => ?_)
      clear hK K
      try simp only [Act.put, List.setIfInBounds_toArray, List.set_cons_zero, List.set_cons_succ]
      refine wpAnyH_take (i := 9) (oi := { dst := some 27, op := _, type := _, pos := _, after := _, guard := none }) (v := ?gv11) rfl (by kernel_rfl) (by kernel_rfl) (by kernel_rfl) (fun _ _ _ h => h) (Or.inl ⟨by rfl, ?gy11⟩) (by assumption) ?_
      case gy11 => (intro w' hSw; go_simp; try with_reducible rfl)
      try simp only [Act.put, List.setIfInBounds_toArray, List.set_cons_zero, List.set_cons_succ]
      refine wpAnyH_take (i := 10) (oi := { dst := some 2, op := _, type := _, pos := _, after := _, guard := none }) (v := ?gv12) rfl (by kernel_rfl) (by kernel_rfl) (by kernel_rfl) (fun _ _ _ h => h) (Or.inl ⟨by rfl, ?gy12⟩) (by assumption) ?_
      case gy12 => (intro w' hSw; go_simp; try with_reducible rfl)
      try simp only [Act.put, List.setIfInBounds_toArray, List.set_cons_zero, List.set_cons_succ]
      refine wpAnyH_done (by kernel_rfl) (NoPanic.normal ?_) _
      rotate_left
      all_goals
        go_wp2
        go_ret
        exact ⟨rfl, by (repeat' (first | assumption | exact below_refl _ | refine bl_alloc ?_ _ | refine Below.setCell ?_ ?_ _ | refine below_draw ?_ | refine below_drewN ?_ _ | refine below_tr ?_ (by assumption))) <;> (first | omega | (simp; done) | (simp; omega))⟩
theorem r_Digits (n : Int) (w : World) (h0 : -9223372036854775808 ≤ n) (h1 : n ≤ 9223372036854775807) : Calls Tryz.prog 23 #[.int .i64 n] w fun e w' => e = .returned (.string ⟨(itoa n).toArray⟩) ∧ Below w.heap.size w w' := by
  by_cases hn : n < 0
  · by_cases hm : n = -9223372036854775808
    · subst hm
      rw [itoa_min]
      go_enter Tryz.func23, Tryz.ntmps23
      go_wp2
      go_ret
      exact ⟨rfl, below_refl _⟩
    · have hmm : (n == -9223372036854775808) = false := by simpa using hm
      obtain ⟨m, rfl⟩ : ∃ m : Nat, n = -(m : Int) := ⟨n.natAbs, by omega⟩
      have HC := Lib.hid (fun W => r_DigitsN m W (by omega))
      have HI := Lib.hid (show (⟨(itoa (-(m : Int))).toArray⟩ : ByteArray) = ⟨#[45]⟩ ++ ⟨(decDigits m).toArray⟩ by
        have : itoa (-(m : Int)) = 45 :: decDigits m := by unfold itoa; rw [if_pos hn]; congr 2; omega
        rw [this]; apply ByteArray.ext; simp [ByteArray.data_append])
      have hw : IntKind.i64.wrap (m : Int) = (m : Int) := fits_wrapU ⟨by omega, by omega⟩
      have hL := decD_len m (by omega)
      have hno : ¬ (0 ≤ -(m : Int)) := by omega
      rw [HI.out]
      clear HI
      generalize decDigits m = DD at *
      go_enter Tryz.func23, Tryz.ntmps23
      go_wp2_with (go_at_call 23; ((with_reducible refine (HC.out _).mono ?_); rintro e w3 ⟨rfl, hb3⟩))
      go_ret
      exact ⟨rfl, hb3⟩
  · obtain ⟨m, rfl⟩ := Int.eq_ofNat_of_zero_le (show 0 ≤ n by omega)
    have : itoa (m : Int) = decDigits m := by unfold itoa; rw [if_neg hn]; rfl
    rw [this]
    exact r_DigitsN m w (by omega)
end Go.Proofs.YthklgkgincebhaaGreatDoor.T6
