/- Texts: Number of the reference of chapter 1. -/
import Derived.Test.YtoelekhkgknneaaDoorQe
import Derived.Deep.DeepCutAuto
set_option linter.unusedSimpArgs false
set_option linter.unusedVariables false
namespace Go.Proofs.YtoelekhkgknneaaDoor.Tx
open Go.RowKit Go.Lib

theorem valD_snoc (l : List UInt8) (c : UInt8) : valD 0 (l ++ [c]) = valD 0 l * 10 + (c.toNat - 48) := by rw [valD_app]; rfl
theorem list_bts_eq {s : ByteArray} {L : List UInt8} (h : s.data.toList = L) : s = bts L := by rw [← h, list_bts]
def NumP (L : List UInt8) (w : World) (e : Ending) (w' : World) : Prop := ∃ n, e = .returned (.tuple #[.int .i64 n, .bool (numB L)]) ∧ (numB L = true → n = numV L) ∧ Below w.heap.size w w'
theorem num_ret {L : List UInt8} {w w' : World} {n : Int} {b : Bool} (h : numB L = b) (hn : numB L = true → n = numV L) (hb : Below w.heap.size w w') : NumP L w (.returned (.tuple #[.int .i64 n, .bool b])) w' := ⟨n, by rw [h], hn, hb⟩
set_option maxHeartbeats 4000000 in
set_option maxRecDepth 20000 in
theorem r1_Number (s : ByteArray) (w : World) (hs : s.size ≤ 100000) :
    Calls Tryd.prog 102 #[.string s] w (NumP s.data.toList w) := by
  obtain ⟨L, hL⟩ : ∃ L, L = s.data.toList := ⟨_, rfl⟩
  have hsz : L.length = s.size := by rw [hL]; simp
  have HAT := Lib.hid (fun (k : Nat) (h : k < s.size) => (show L[k]? = some s[k] by rw [hL]; exact at_of h))
  have HEQ := Lib.hid (fun v : Int => (show ((bts (itoa v)).toList == s.toList) = decide (itoa v = L) by rw [seq_eq, hL, bts_list]))
  have HX1 := Lib.hid (show (s.extract 1 s.size).data.toList = L.drop 1 by
    rw [extract_eq, hL]
    show (bts _).data.toList = _
    rw [bts_list]
    exact List.take_of_length_le (by rw [List.length_drop]; simp))
  have HX0 := Lib.hid (show s.data.toList = L from hL.symm)
  rw [← hL]
  clear hL
  have s0 : (0 : Int) ≤ (s.size : Int) := Int.natCast_nonneg _
  have HNO := Lib.hid (fun (h : ¬ (bodyZ L ≠ [] ∧ (bodyZ L).length ≤ 18 ∧ (bodyZ L).all digB = true)) => (show numB L = false by
    unfold numB
    cases hb : (decide (bodyZ L ≠ []) && (decide ((bodyZ L).length ≤ 18) && ((bodyZ L).all digB && decide (itoa (numV L) = L))))
    · rfl
    · simp only [Bool.and_eq_true, decide_eq_true_eq] at hb
      exact absurd ⟨hb.1, hb.2.1, hb.2.2.1⟩ h))
  have HYES := Lib.hid (fun (h : bodyZ L ≠ [] ∧ (bodyZ L).length ≤ 18 ∧ (bodyZ L).all digB = true) => (show numB L = decide (itoa (numV L) = L) by
    unfold numB; rw [decide_eq_true h.1, decide_eq_true h.2.1, h.2.2]; rfl))
  by_cases h0 : s.size = 0
  · have g0 : ¬ (0 : Int) < (s.size : Int) := by omega
    have g00 : (s.size : Int) < 1 := by omega
    have hl0 : L = [] := List.length_eq_zero_iff.1 (by omega)
    have HN := Lib.hid (HNO.out (fun h => h.1 (by rw [hl0]; rfl)))
    clear HAT HEQ HX1 HX0 hl0 HNO HYES
    go_enter Tryd.func102, Tryd.ntmps102
    go_wp2
    go_ret2
    exact num_ret HN.out (fun h => by rw [HN.out] at h; cases h) (below_refl _)
  have hpos : 0 < s.size := by omega
  have g0 : (0 : Int) < (s.size : Int) := by omega
  have g1 : (1 : Int) ≤ (s.size : Int) := by omega
  have hhd : L.head? = some s[0] := by rw [List.head?_eq_getElem?]; exact HAT.out 0 hpos
  have hu := u8_eq s[0] 45
  rw [show (((45 : UInt8).toNat : Nat) : Int) = 45 from rfl] at hu
  obtain ⟨mi, hmi⟩ : ∃ mi, mi = decide (s[0] = 45) := ⟨_, rfl⟩
  have HMI := Lib.hid (show mi = true ↔ L.head? = some 45 by rw [hmi, hhd, decide_eq_true_eq]; simp)
  rw [← hmi] at hu
  clear hmi hhd
  go_enter Tryd.func102, Tryd.ntmps102
  go_upto_if 15 with fail
  go_cut [4] (fun sv wx => ∃ bd : ByteArray, sv = .string bd ∧ wx = w ∧ Hid (bd.data.toList = bodyZ L) ∧ bd.size ≤ s.size ∧ Hid (numV L = if bd.size < s.size then -((valD 0 (bodyZ L) : Nat) : Int) else ((valD 0 (bodyZ L) : Nat) : Int)))
  case first =>
    cases mi
    · have h45 : ¬ L.head? = some 45 := fun h => by have := HMI.out.2 h; cases this
      have hbz : bodyZ L = L := by unfold bodyZ; rw [if_neg h45]
      have HB := Lib.hid (show s.data.toList = bodyZ L by rw [HX0.out, hbz])
      have HV := Lib.hid (show numV L = if s.size < s.size then -((valD 0 (bodyZ L) : Nat) : Int) else ((valD 0 (bodyZ L) : Nat) : Int) by
        rw [if_neg (Nat.lt_irrefl _), hbz]; unfold numV; rw [if_neg h45])
      clear HAT HEQ HX1 HX0 HNO HYES h45 hbz
      go_wp2
      go_meet
      case rel => exact ⟨s, rfl, rfl, HB, Nat.le_refl _, HV⟩
    · have h45 : L.head? = some 45 := HMI.out.1 rfl
      have hbz : bodyZ L = L.drop 1 := by unfold bodyZ; rw [if_pos h45]; simp
      have hsx : (s.extract 1 s.size).size = s.size - 1 := by simp [ByteArray.size_extract]
      have HB := Lib.hid (show (s.extract 1 s.size).data.toList = bodyZ L by rw [HX1.out, hbz])
      have HV := Lib.hid (show numV L = if (s.extract 1 s.size).size < s.size then -((valD 0 (bodyZ L) : Nat) : Int) else ((valD 0 (bodyZ L) : Nat) : Int) by
        rw [if_pos (by rw [hsx]; omega), hbz]; unfold numV; rw [if_pos h45]; simp)
      have HLE := Lib.hid (show (s.extract 1 s.size).size ≤ s.size by rw [hsx]; omega)
      clear HAT HEQ HX1 HX0 HNO HYES h45 hbz hsx
      go_wp2
      go_meet
      case rel => exact ⟨_, rfl, rfl, HB, HLE.out, HV⟩
  case rest =>
    obtain ⟨bd, rfl, rfl, HB, hbs, HV⟩ := hcut
    clear HX1 HX0 HAT h0 g1 hu HMI
    generalize hBL : bodyZ L = B at *
    clear hBL
    have hBl : B.length = bd.size := by rw [← HB.out]; simp
    have b0 : (0 : Int) ≤ (bd.size : Int) := Int.natCast_nonneg _
    by_cases h0 : bd.size = 0
    · have g1 : (bd.size : Int) < 1 := by omega
      have HN := Lib.hid (HNO.out (fun h => h.1 (List.length_eq_zero_iff.1 (by omega))))
      clear HNO HYES HEQ HV HB
      go_wp2
      go_ret2
      exact num_ret HN.out (fun h => by rw [HN.out] at h; cases h) (below_refl _)
    have g1 : ¬ (bd.size : Int) < 1 := by omega
    by_cases h18 : bd.size ≤ 18
    rotate_left
    · have g18 : (18 : Int) < (bd.size : Int) := by omega
      have HN := Lib.hid (HNO.out (fun h => by have := h.2.1; omega))
      clear HNO HYES HEQ HV HB
      go_wp2
      go_ret2
      exact num_ret HN.out (fun h => by rw [HN.out] at h; cases h) (below_refl _)
    have g18 : ¬ (18 : Int) < (bd.size : Int) := by omega
    have HBA := Lib.hid (fun (k : Nat) (h : k < bd.size) => (show B[k]? = some bd[k] by rw [← HB.out]; exact at_of h))
    have HBN := Lib.hid (show B ≠ [] from fun h => by rw [h] at hBl; simp at hBl; omega)
    have HBL := Lib.hid hBl
    clear hBl HB
    go_wp2
    go_loopw [5, 6] (fun nv i wr => ∃ k n : Nat, k ≤ bd.size ∧ i = .int .i64 k ∧ nv = .int .i64 (n : Int) ∧ Below wc.heap.size wc wr ∧ n < 1000000000000000000 ∧ Hid (n = valD 0 (B.take k) ∧ ∀ c ∈ B.take k, digB c = true)) (fun _ i _ => bd.size - (RowKit.intOf i).toNat)
    case atStart => exact ⟨0, 0, by omega, rfl, rfl, below_refl _, by omega, Lib.hid ⟨by simp [valD], by simp⟩⟩
    case round =>
      obtain ⟨k, n, hk, rfl, rfl, hbw, hn18, HI⟩ := hrel
      rename World => wr
      have k0 : (0 : Int) ≤ (k : Int) := Int.natCast_nonneg _
      have n0 : (0 : Int) ≤ (n : Int) := Int.natCast_nonneg _
      obtain ⟨h1, h2⟩ := HI.out
      by_cases hlt : k < bd.size
      · have k1 : (k : Int) < (bd.size : Int) := by omega
        have hat := HBA.out k hlt
        have hdm : B.take (k + 1) = B.take k ++ [bd[k]] := by rw [List.take_add_one, hat]; rfl
        by_cases hdg : digB bd[k] = true
        · have hdd : 48 ≤ bd[k].toNat ∧ bd[k].toNat ≤ 57 := by unfold digB at hdg; exact of_decide_eq_true hdg
          have HN := Lib.hid (show n * 10 + (bd[k].toNat - 48) = valD 0 (B.take (k + 1)) ∧ ∀ c ∈ B.take (k + 1), digB c = true by
            rw [hdm, valD_snoc, ← h1]
            refine ⟨rfl, fun c hc => ?_⟩
            rcases List.mem_append.1 hc with hc | hc
            · exact h2 c hc
            · simp at hc; rw [hc]; exact hdg)
          have hb18 : n * 10 + (bd[k].toNat - 48) < 1000000000000000000 := by
            have h3 := valD_lt (B.take (k + 1)) 0 HN.out.2
            rw [← HN.out.1] at h3
            have h4 : (B.take (k + 1)).length ≤ 18 := by rw [List.length_take]; omega
            have h5 : 10 ^ (B.take (k + 1)).length ≤ 10 ^ 18 := Nat.pow_le_pow_right (by omega) h4
            omega
          have c0 : (48 : Int) ≤ (bd[k].toNat : Int) := by omega
          have c1 : (bd[k].toNat : Int) ≤ 57 := by omega
          have cl : ¬ (bd[k].toNat : Int) < 48 := by omega
          have cg : ¬ (57 : Int) < (bd[k].toNat : Int) := by omega
          have w1 : IntKind.u8.wrap ((bd[k].toNat : Int) - 48) = (bd[k].toNat : Int) - 48 := by simp [IntKind.wrap, IntKind.bits, IntKind.signed]; omega
          have w2 : IntKind.i64.wrap (10 * (n : Int)) = 10 * (n : Int) := fits_wrap ⟨by omega, by omega⟩
          have w3 : IntKind.i64.wrap ((bd[k].toNat : Int) - 48) = (bd[k].toNat : Int) - 48 := fits_wrap ⟨by omega, by omega⟩
          have w4 : IntKind.i64.wrap (10 * (n : Int) + ((bd[k].toNat : Int) - 48)) = 10 * (n : Int) + ((bd[k].toNat : Int) - 48) := fits_wrap ⟨by omega, by omega⟩
          have HVV := Lib.hid (show (10 * (n : Int) + ((bd[k].toNat : Int) - 48)) = ((n * 10 + (bd[k].toNat - 48) : Nat) : Int) by omega)
          have HB18 := Lib.hid hb18
          clear h1 h2 HI hat hdg hdd hdm hb18
          go_wp2
          go_roundw
          case rel => exact ⟨k + 1, n * 10 + (bd[k].toNat - 48), by omega, by go_num, by rw [HVV.out], hbw, HB18.out, Lib.hid HN.out⟩
          case measure => simp [RowKit.intOf]; omega
        · have HN := Lib.hid (HNO.out (fun h => by
            have := List.all_eq_true.1 h.2.2 bd[k] (List.mem_of_getElem? hat)
            exact hdg this))
          have hdd : (bd[k].toNat : Int) < 48 ∨ (57 : Int) < (bd[k].toNat : Int) := by
            have : ¬ (48 ≤ bd[k].toNat ∧ bd[k].toNat ≤ 57) := fun h => hdg (by unfold digB; exact decide_eq_true h)
            omega
          clear h1 h2 HI hat hdg hdm HNO HYES
          rcases hdd with hdd | hdd
          · go_wp2
            go_ret2
            exact num_ret HN.out (fun h => by rw [HN.out] at h; cases h) hbw
          · have hnl : ¬ (bd[k].toNat : Int) < 48 := by omega
            go_wp2
            go_ret2
            exact num_ret HN.out (fun h => by rw [HN.out] at h; cases h) hbw
      · obtain rfl : k = bd.size := by omega
        have htk : B.take bd.size = B := List.take_of_length_le (by rw [HBL.out]; exact Nat.le_refl _)
        rw [htk] at h1 h2
        have HY := Lib.hid (HYES.out ⟨HBN.out, by rw [HBL.out]; exact h18, List.all_eq_true.2 h2⟩)
        have HVV := Lib.hid (show numV L = if bd.size < s.size then -(n : Int) else (n : Int) by rw [HV.out, ← h1])
        clear h1 h2 HI htk HV HNO HYES
        have wn1 : IntKind.i64.wrap (-(n : Int)) = -(n : Int) := fits_wrap ⟨by omega, by omega⟩
        by_cases hmi : bd.size < s.size
        · have g2 : (bd.size : Int) < (s.size : Int) := by omega
          have HVn := Lib.hid (show numV L = -(n : Int) by rw [HVV.out, if_pos hmi])
          have HD := Lib.hid (r1_Digits (-(n : Int)) wr (by omega) (by omega))
          have hq := HEQ.out (-(n : Int))
          have HB2 := Lib.hid (show numB L = decide (itoa (-(n : Int)) = L) by rw [HY.out, HVn.out])
          generalize bts (itoa (-(n : Int))) = ST at HD hq
          cases hd : decide (itoa (-(n : Int)) = L)
          all_goals
            rw [hd] at hq HB2
            have HBF := Lib.hid HB2.out
            clear HB2 hd HVV HY
            go_wp2_with (go_at_call 105; ((with_reducible refine HD.out.mono ?_); rintro e w3 ⟨rfl, hb3⟩))
            go_ret2
            exact num_ret HBF.out (fun _ => HVn.out.symm) (below_tr hbw hb3)
        · have g2 : ¬ (bd.size : Int) < (s.size : Int) := by omega
          have HVn := Lib.hid (show numV L = (n : Int) by rw [HVV.out, if_neg hmi])
          have HD := Lib.hid (r1_Digits (n : Int) wr (by omega) (by omega))
          have hq := HEQ.out (n : Int)
          have HB2 := Lib.hid (show numB L = decide (itoa (n : Int) = L) by rw [HY.out, HVn.out])
          generalize bts (itoa (n : Int)) = ST at HD hq
          cases hd : decide (itoa (n : Int) = L)
          all_goals
            rw [hd] at hq HB2
            have HBF := Lib.hid HB2.out
            clear HB2 hd HVV HY
            go_wp2_with (go_at_call 105; ((with_reducible refine HD.out.mono ?_); rintro e w3 ⟨rfl, hb3⟩))
            go_ret2
            exact num_ret HBF.out (fun _ => HVn.out.symm) (below_tr hbw hb3)
end Go.Proofs.YtoelekhkgknneaaDoor.Tx
