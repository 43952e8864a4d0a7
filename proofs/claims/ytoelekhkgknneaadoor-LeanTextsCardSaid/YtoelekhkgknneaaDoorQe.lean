/- Texts: numerals by the reference of chapter 1: Digits. -/
import Derived.Test.YtoelekhkgknneaaDoorQd
import Derived.Laws.IdiomStrings
import Derived.Laws.Concat
set_option linter.unusedSimpArgs false
set_option linter.unusedVariables false
namespace Go.Proofs.YtoelekhkgknneaaDoor.Tx
open Go.RowKit Go.Lib

theorem dig_ext {r : Nat} (h : r < 10) : (⟨#[48, 49, 50, 51, 52, 53, 54, 55, 56, 57]⟩ : ByteArray).extract r (r + 1) = bts [dgB r] := by
  have : ∀ r : Fin 10, (⟨#[48, 49, 50, 51, 52, 53, 54, 55, 56, 57]⟩ : ByteArray).extract r.1 (r.1 + 1) = bts [dgB r.1] := by decide +kernel
  exact this ⟨r, h⟩
theorem dig_slice {r : Nat} (h : r < 10) (W : World) : (Instr.slice 9 (.string ⟨#[48, 49, 50, 51, 52, 53, 54, 55, 56, 57]⟩) (some (.int .i64 (r : Int))) (some (.int .i64 ((r : Int) + 1))) none).run Tryd.prog W = .ok (.string (bts [dgB r])) W := by
  have := run_slice_string (P := Tryd.prog) W 9 ⟨#[48, 49, 50, 51, 52, 53, 54, 55, 56, 57]⟩ .i64 .i64 (r : Int) ((r : Int) + 1) Tryd.underlying9 (by omega) (by omega) (by show (r : Int) + 1 ≤ 10; omega)
  rw [this, ← dig_ext h]
  rfl
theorem itoa_min : itoa (-9223372036854775808) = [45, 57, 50, 50, 51, 51, 55, 50, 48, 51, 54, 56, 53, 52, 55, 55, 53, 56, 48, 56] := by decide +kernel
set_option maxHeartbeats 2000000 in
set_option maxRecDepth 20000 in
theorem r1_DigitsN (m : Nat) (w : World) (hm : m ≤ 9223372036854775807) : Calls Tryd.prog 105 #[.int .i64 (m : Int)] w fun e w' => e = .returned (.string (bts (decDigits m))) ∧ Below w.heap.size w w' := by
  have m0 : ¬ (m : Int) < 0 := by omega
  have HL := Lib.hid (decD_le (u := m) (k := 18) (by omega))
  go_enter Tryd.func105, Tryd.ntmps105
  go_wp2
  go_loopw [0, 3] (fun n s wr => ∃ (q : Nat) (D : List UInt8), n = .int .i64 (q : Int) ∧ s = .string (bts D) ∧ Below w.heap.size w wr ∧ q ≤ m ∧ Hid (decDigits m = decDigits q ++ D)) (fun n _ _ => (RowKit.intOf n).toNat)
  case atStart => exact ⟨m, [], rfl, rfl, below_refl _, Nat.le_refl _, Lib.hid (by simp)⟩
  case round =>
    obtain ⟨q, D, rfl, rfl, hbw, hqm, HI⟩ := hrel
    have q0 : (0 : Int) ≤ (q : Int) := Int.natCast_nonneg _
    have hDl : (bts D).size ≤ 19 := by
      have := HL.out
      rw [HI.out, List.length_append] at this
      rw [bts_size]; omega
    by_cases h : q < 10
    · have h9 : ¬ (9 : Int) < (q : Int) := by omega
      have h10 : (q : Int) < 10 := by omega
      have HX := dig_slice h
      have w1 : IntKind.i64.wrap ((q : Int) + 1) = (q : Int) + 1 := fits_wrap ⟨by omega, by omega⟩
      have HE := Lib.hid (show bts (decDigits m) = bts [dgB q] ++ bts D by rw [HI.out, dec_one h, ba_app])
      have hz : ¬ 9223372036854775807 < (bts [dgB q]).size + (bts D).size := by rw [bts_size]; simp; omega
      clear HI HL
      go_wp2
      go_ret
      exact ⟨by rw [HE.out]; rfl, hbw⟩
    · have h9 : (9 : Int) < (q : Int) := by omega
      have hlt : q % 10 < 10 := Nat.mod_lt _ (by omega)
      have HX := dig_slice hlt
      have htd : Int.tdiv (q : Int) 10 = ((q / 10 : Nat) : Int) := by rw [Int.tdiv_eq_ediv_of_nonneg q0]; omega
      have htm : Int.tmod (q : Int) 10 = ((q % 10 : Nat) : Int) := by rw [Int.tmod_eq_emod_of_nonneg q0]; omega
      have HN := Lib.hid (show decDigits m = decDigits (q / 10) ++ ([dgB (q % 10)] ++ D) by rw [HI.out, dec_more h, List.append_assoc])
      have hqq : q / 10 ≤ m := by omega
      have hql : q / 10 < q := by omega
      have wq : IntKind.i64.wrap ((q / 10 : Nat) : Int) = ((q / 10 : Nat) : Int) := fits_wrap ⟨by omega, by omega⟩
      have wr1 : IntKind.i64.wrap ((q % 10 : Nat) : Int) = ((q % 10 : Nat) : Int) := fits_wrap ⟨by omega, by omega⟩
      have w1 : IntKind.i64.wrap (((q % 10 : Nat) : Int) + 1) = ((q % 10 : Nat) : Int) + 1 := fits_wrap ⟨by omega, by omega⟩
      have hz : ¬ 9223372036854775807 < (bts [dgB (q % 10)]).size + (bts D).size := by rw [bts_size]; simp; omega
      clear HI HL h
      generalize hq2 : q / 10 = q2 at *
      generalize hr2 : q % 10 = r2 at *
      have r0 : (r2 : Int) < 10 := by omega
      clear hq2 hr2
      go_wp2
      go_roundw
      case rel => exact ⟨q2, [dgB r2] ++ D, rfl, by rw [← ba_app], hbw, hqq, HN⟩
      case measure => simp [RowKit.intOf]; omega
set_option maxHeartbeats 2000000 in
set_option maxRecDepth 20000 in
theorem r1_Digits (n : Int) (w : World) (h0 : -9223372036854775808 ≤ n) (h1 : n ≤ 9223372036854775807) : Calls Tryd.prog 105 #[.int .i64 n] w fun e w' => e = .returned (.string (bts (itoa n))) ∧ Below w.heap.size w w' := by
  by_cases hn : n < 0
  · by_cases hm : n = -9223372036854775808
    · have HM := Lib.hid (show bts (itoa n) = ⟨#[45, 57, 50, 50, 51, 51, 55, 50, 48, 51, 54, 56, 53, 52, 55, 55, 53, 56, 48, 56]⟩ by rw [hm, itoa_min]; rfl)
      have hneg : IntKind.i64.wrap (-n) = n := by rw [hm]; decide
      rw [HM.out]
      clear hm HM h0 h1
      go_enter Tryd.func105, Tryd.ntmps105
      go_wp2
      go_ret
      exact ⟨rfl, below_refl _⟩
    · have hmm : (n == -n) = false := beq_eq_false_iff_ne.2 (by omega)
      obtain ⟨m, rfl⟩ : ∃ m : Nat, n = -(m : Int) := ⟨n.natAbs, by omega⟩
      rw [Int.neg_neg] at hmm
      have HC := Lib.hid (fun W => r1_DigitsN m W (by omega))
      have HI := Lib.hid (show bts (itoa (-(m : Int))) = ⟨#[45]⟩ ++ bts (decDigits m) by
        have : itoa (-(m : Int)) = 45 :: decDigits m := by unfold itoa; rw [if_pos hn]; congr 2; omega
        rw [this]; unfold bts; apply ByteArray.ext; simp [ByteArray.data_append])
      have hw : IntKind.i64.wrap (m : Int) = (m : Int) := fits_wrap ⟨by omega, by omega⟩
      have hL : (bts (decDigits m)).size ≤ 19 := by rw [bts_size]; exact decD_le (u := m) (k := 18) (by omega)
      have hno : ¬ (0 ≤ -(m : Int)) := by omega
      have hz : ¬ 9223372036854775807 < 1 + (bts (decDigits m)).size := by omega
      rw [HI.out]
      clear HI
      generalize bts (decDigits m) = DD at *
      go_enter Tryd.func105, Tryd.ntmps105
      go_wp2_with (go_at_call 105; ((with_reducible refine (HC.out _).mono ?_); rintro e w3 ⟨rfl, hb3⟩))
      go_ret
      exact ⟨rfl, hb3⟩
  · obtain ⟨m, rfl⟩ := Int.eq_ofNat_of_zero_le (show 0 ≤ n by omega)
    have : itoa (m : Int) = decDigits m := by unfold itoa; rw [if_neg hn]; rfl
    rw [this]
    exact r1_DigitsN m w (by omega)
end Go.Proofs.YtoelekhkgknneaaDoor.Tx
