/- Gear: validRig and ValidRig by the reference. -/
import Derived.Test.YtijlglanpgcdiaaGe
set_option linter.unusedSimpArgs false
set_option linter.unusedVariables false
namespace Go.Proofs.Ytijlglanpgcdiaa
open Go.RowKit Go.Maps

theorem fndl_ge {r : List Lk} {s : ByteArray} {k : Nat} (h : ∀ j y, j < k → r[j]? = some y → y.nm.toList ≠ s.toList) (h0 : 0 ≤ fndL r s) : ¬ fndL r s < k := by
  intro hlt
  obtain ⟨n, hn⟩ := Int.eq_ofNat_of_zero_le h0
  obtain ⟨y, hy, he⟩ := fndl_at hn
  exact h n y (by omega) hy he
set_option maxHeartbeats 4000000 in
set_option maxRecDepth 20000 in
theorem r_validRig (A B : Option Addr) (g : List It) (r : List Lk) (c d : Nat) (w : World) (hl : g.length ≤ 100000) (hn : r.length ≤ 100000) (hR : Rd It.cs 4 w A g) (hS : Rd Lk.cs 2 w B r) (hV : ∀ x ∈ r, LW x) :
    Calls Try.prog 59 #[.slice A g.length c, .slice B r.length d] w fun e w' => e = .returned (.bool (vldR g r)) ∧ Below w.heap.size w w' := by
  have HF := Lib.hid (fun s W (h : Below w.heap.size w W) => r_find A g c s W hl (hR.on h))
  clear hR
  go_enter Try.func59, Try.ntmps59
  go_wp2
  go_loopw [5] (fun i wr => ∃ k : Nat, k ≤ r.length ∧ i = .int .i64 k ∧ Below w.heap.size w wr ∧ Hid ((List.range k).all (okL g r) = true)) (fun i _ => r.length - (intOf i).toNat)
  case atStart => exact ⟨0, by omega, rfl, Below.refl _ _, Lib.hid rfl⟩
  case round =>
    obtain ⟨k, hk, rfl, hB, HI⟩ := hrel
    have k0 : (0 : Int) ≤ (k : Int) := Int.natCast_nonneg _
    by_cases hlt : k < r.length
    · have k1 : (k : Int) < (r.length : Int) := by omega
      obtain ⟨x, b, off, hx, rfl, hb, c0, c1⟩ := rdL (hS.on hB) hlt
      have iw := hV x (List.mem_of_getElem? hx)
      have iw1 := iw.f0
      have iw2 := iw.f1
      have HY := Lib.hid hx
      have h0 := fndl_of hx rfl
      obtain ⟨f1, f2⟩ := fnd_bd g x.nm
      have HN := Lib.hid (fun h => fndl_ge (r := r) (s := x.nm) (k := k) h h0.1)
      obtain ⟨F, hF⟩ : ∃ F, fndI g x.nm = F := ⟨_, rfl⟩
      have HX := Lib.hid (hF ▸ HF.out x.nm wr hB)
      have HD := Lib.hid (fun (j : Nat) (y : Lk) (hy : r[j]? = some y) (he : y.nm.toList = x.nm.toList) => fndl_of hy he)
      rw [hF] at f1 f2
      have HFF := Lib.hid hF
      clear hx iw h0 hF
      by_cases hF0 : F < 0
      · have HE := Lib.hid (vldR_no (g := g) HY.out (by rw [HFF.out]; simp; omega))
        go_wp2_with (go_at_call 50; ((with_reducible refine (HX.out).mono ?_); rintro e w' ⟨rfl, rfl⟩))
        go_ret
        exact ⟨ret_bool (by rw [HE.out]), hB⟩
      have hF1 : 0 ≤ F := by omega
      by_cases hf : frB k x.fr = true
      · have HFR := Lib.hid hf
        rcases Nat.eq_zero_or_pos k with hp | hp
        · unfold frB at hf
          rw [if_pos hp] at hf
          have hf' : (x.fr != -1) = false := by simpa using hf
          subst hp
          simp only [Nat.zero_mul, Nat.add_zero] at c0 c1
          clear hf
          go_wp2_with (go_at_call 50; ((with_reducible refine (HX.out).mono ?_); rintro e w' ⟨rfl, rfl⟩))
          go_loopw [6] (fun i wv => ∃ j : Nat, j ≤ 0 ∧ i = .int .i64 j ∧ Below w.heap.size w wv ∧ Hid (∀ j' y, j' < j → r[j']? = some y → y.nm.toList ≠ x.nm.toList)) (fun i _ => 0 - (intOf i).toNat)
          case atStart => exact ⟨0, by omega, rfl, hB, Lib.hid (by intro j' y h; omega)⟩
          case round =>
            clear hB c0 c1
            obtain ⟨j, hj, rfl, hB, HJ⟩ := hrel
            have j0 : (0 : Int) ≤ (j : Int) := Int.natCast_nonneg _
            by_cases hjk : j < 0
            · omega
            · obtain rfl : j = 0 := by omega
              have HE := Lib.hid (okL_step (g := g) HY.out HI.out (by
                have := HN.out HJ.out
                have h2 := HFR.out
                rw [HFF.out, h2]; simp; omega))
              go_wp2
              go_roundw
              case rel => exact ⟨0 + 1, by omega, by go_num, hB, HE⟩
              case measure => simp [intOf]; omega
        · unfold frB at hf
          rw [if_neg (by omega), wn_iff] at hf
          have q2 : ¬ (k : Int) = 0 := by omega
          have q3 : (0 : Int) < (k : Int) := by omega
          have q4 : ¬ x.fr < 0 := by omega
          have q5 : x.fr < (k : Int) := by omega
          clear hf
          go_wp2_with (go_at_call 50; ((with_reducible refine (HX.out).mono ?_); rintro e w' ⟨rfl, rfl⟩))
          go_loopw [6] (fun i wv => ∃ j : Nat, j ≤ k ∧ i = .int .i64 j ∧ Below w.heap.size w wv ∧ Hid (∀ j' y, j' < j → r[j']? = some y → y.nm.toList ≠ x.nm.toList)) (fun i _ => k - (intOf i).toNat)
          case atStart => exact ⟨0, by omega, rfl, hB, Lib.hid (by intro j' y h; omega)⟩
          case round =>
            clear hB c0 c1
            obtain ⟨j, hj, rfl, hB, HJ⟩ := hrel
            have j0 : (0 : Int) ≤ (j : Int) := Int.natCast_nonneg _
            by_cases hjk : j < k
            · obtain ⟨y, b', off', hy, e, _, d0, d1⟩ := rdL (hS.on hB) (show j < r.length by omega)
              obtain ⟨x', b2, off2, hx', e2, _, c0, c1⟩ := rdL (hS.on hB) hlt
              rw [HY.out] at hx'
              cases hx'
              cases e2
              cases e
              have j1 : (j : Int) < (k : Int) := by omega
              have HDD := Lib.hid (HD.out j y hy)
              have HYY := Lib.hid hy
              clear hy
              cases he : (y.nm.toList == x.nm.toList)
              · have HEE := Lib.hid he
                go_wp2
                go_quiet (fail)
                go_wp2
                go_roundw
                case rel =>
                  refine ⟨j + 1, by omega, by go_num, below_drewN hB _, Lib.hid ?_⟩
                  intro j' z h hz
                  rcases Nat.eq_or_lt_of_le (Nat.le_of_lt_succ h) with rfl | h1
                  · rw [HYY.out] at hz; cases hz
                    have := HEE.out
                    simpa using this
                  · exact HJ.out j' z h1 hz
                case measure => simp [intOf]; omega
              · have HEE := Lib.hid (show vldR g r = false from vldR_no (g := g) HY.out (by
                  have := HDD.out (by simpa using he)
                  rw [Bool.and_eq_false_iff]; right; simp; omega))
                go_wp2
                go_quiet (fail)
                go_wp2
                go_ret
                exact ⟨ret_bool (by rw [HEE.out]), below_drewN hB _⟩
            · obtain rfl : k = j := by omega
              have HE := Lib.hid (okL_step (g := g) HY.out HI.out (by
                have := HN.out HJ.out
                have h2 := HFR.out
                rw [HFF.out, h2]; simp; omega))
              go_wp2
              go_roundw
              case rel => exact ⟨k + 1, by omega, by go_num, hB, HE⟩
              case measure => simp [intOf]; omega
      · have HE := Lib.hid (vldR_no (g := g) HY.out (by rw [Bool.not_eq_true] at hf; rw [hf]; simp))
        rcases Nat.eq_zero_or_pos k with hp | hp
        · unfold frB at hf
          rw [if_pos hp] at hf
          have hf' : (x.fr != -1) = true := by simpa using hf
          subst hp
          simp only [Nat.zero_mul, Nat.add_zero] at c0 c1
          clear hf
          go_wp2_with (go_at_call 50; ((with_reducible refine (HX.out).mono ?_); rintro e w' ⟨rfl, rfl⟩))
          go_ret
          exact ⟨ret_bool (by rw [HE.out]), hB⟩
        · unfold frB at hf
          rw [if_neg (by omega), wn_iff] at hf
          have q2 : ¬ (k : Int) = 0 := by omega
          have q3 : (0 : Int) < (k : Int) := by omega
          by_cases q4 : x.fr < 0
          · clear hf
            go_wp2_with (go_at_call 50; ((with_reducible refine (HX.out).mono ?_); rintro e w' ⟨rfl, rfl⟩))
            go_ret
            exact ⟨ret_bool (by rw [HE.out]), hB⟩
          · have q5 : (k : Int) ≤ x.fr := by omega
            clear hf
            go_wp2_with (go_at_call 50; ((with_reducible refine (HX.out).mono ?_); rintro e w' ⟨rfl, rfl⟩))
            go_ret
            exact ⟨ret_bool (by rw [HE.out]), hB⟩
    · obtain rfl : k = r.length := by omega
      go_wp2_with (go_at_call 57; ((with_reducible refine (r_within _ _ _ _).mono ?_); rintro e w' ⟨rfl, rfl⟩))
      go_ret
      exact ⟨ret_bool (by rw [vldR_yes HI.out]), hB⟩
end Go.Proofs.Ytijlglanpgcdiaa
