/- Texts: Number of the reference. -/
import Derived.Test.YtoelekhkgknneaaDoorUe
import Derived.Test.YtoelekhkgknneaaDoorUf
import Derived.BigQuiet
set_option linter.unusedSimpArgs false
set_option linter.unusedVariables false
namespace Go.Proofs.YtoelekhkgknneaaDoor
open Go.RowKit Go.Lib

theorem seq_eq (a b : ByteArray) : (a.toList == b.toList) = decide (a.data.toList = b.data.toList) := by
  rw [ByteArray.toList_eq, ByteArray.toList_eq]
  by_cases h : a.data.toList = b.data.toList
  · rw [decide_eq_true h, h]; simp
  · rw [decide_eq_false h]; simpa using h
theorem r_within6 (n lo hi : Int) (w : World) :
    Calls Tryd.prog 85 #[.int .i64 n, .int .i64 lo, .int .i64 hi] w fun e w' => e = .returned (.bool (wn n lo hi)) ∧ w = w' := by
  by_cases h1 : lo ≤ n
  · have t1 : decide (lo ≤ n) = true := by simpa using h1
    go_enter Tryd.func85, Tryd.ntmps85
    go_wp2
    go_ret
    exact ⟨ret_bool (by simp [wn, h1]), rfl⟩
  · have t1 : decide (lo ≤ n) = false := by simpa using h1
    go_enter Tryd.func85, Tryd.ntmps85
    go_wp2
    go_ret
    exact ⟨ret_bool (by unfold wn; rw [t1]; rfl), rfl⟩
theorem valD_snoc (l : List UInt8) (c : UInt8) : valD 0 (l ++ [c]) = valD 0 l * 10 + (c.toNat - 48) := by rw [valD_app]; rfl
theorem drop_more {L : List UInt8} {k m : Nat} {c : UInt8} (hc : L[k]? = some c) (hm : m ≤ k) : (L.take (k + 1)).drop m = (L.take k).drop m ++ [c] := by
  have hk : k < L.length := (List.getElem?_eq_some_iff.1 hc).1
  rw [List.take_add_one, hc]
  exact List.drop_append_of_le_length (by rw [List.length_take]; omega)
def NumP (L : List UInt8) (w : World) (e : Ending) (w' : World) : Prop := ∃ n, e = .returned (.tuple #[.int .i64 n, .bool (numB L)]) ∧ (numB L = true → n = numV L) ∧ Below w.heap.size w w'
theorem num_ret {L : List UInt8} {w w' : World} {n : Int} {b : Bool} (h : numB L = b) (hn : numB L = true → n = numV L) (hb : Below w.heap.size w w') : NumP L w (.returned (.tuple #[.int .i64 n, .bool b])) w' := ⟨n, by rw [h], hn, hb⟩
set_option maxHeartbeats 4000000 in
set_option maxRecDepth 20000 in
theorem r_Number (s : ByteArray) (w : World) (hs : s.size ≤ 100000) :
    Calls Tryd.prog 46 #[.string s] w (NumP s.data.toList w) := by
  obtain ⟨L, hL⟩ : ∃ L, L = s.data.toList := ⟨_, rfl⟩
  have hsz : L.length = s.size := by rw [hL]; simp
  have HAT := Lib.hid (fun (k : Nat) (h : k < s.size) => (show L[k]? = some s[k] by rw [hL]; exact at_of h))
  have hemp : s.toList.isEmpty = decide (L = []) := by rw [ByteArray.toList_eq, hL]; cases s.data.toList <;> simp
  have HEQ := Lib.hid (fun v : Int => (show ((⟨(itoa v).toArray⟩ : ByteArray).toList == s.toList) = decide (itoa v = L) by rw [seq_eq, hL]))
  rw [← hL]
  clear hL
  have s0 : (0 : Int) ≤ (s.size : Int) := Int.natCast_nonneg _
  by_cases h0 : L = []
  · have hb : numB L = false := by unfold numB; rw [decide_eq_false (by simp [h0])]; rfl
    rw [decide_eq_true h0] at hemp
    have HB := Lib.hid hb
    clear hb h0
    go_enter Tryd.func46, Tryd.ntmps46
    go_wp2
    go_ret2
    exact num_ret HB.out (fun h => by rw [HB.out] at h; cases h) (below_refl _)
  rw [decide_eq_false h0] at hemp
  by_cases h17 : s.size ≤ 17
  rotate_left
  · have hb : numB L = false := by unfold numB; rw [decide_eq_false (show ¬ L.length ≤ 17 by omega)]; simp
    have HB := Lib.hid hb
    have g17 : (17 : Int) < (s.size : Int) := by omega
    clear hb h0
    go_enter Tryd.func46, Tryd.ntmps46
    go_wp2
    go_ret2
    exact num_ret HB.out (fun h => by rw [HB.out] at h; cases h) (below_refl _)
  have g17 : ¬ (17 : Int) < (s.size : Int) := by omega
  have hpos : 0 < s.size := by
    have : 0 < L.length := List.length_pos_iff.2 h0
    omega
  have p0 : (0 : Int) < (s.size : Int) := by omega
  have hat0 := HAT.out 0 hpos
  have hhd : L.head? = some s[0] := by rw [List.head?_eq_getElem?]; exact hat0
  obtain ⟨mi, hmi⟩ : ∃ mi, mi = ((s[0].toNat : Int) == 45) := ⟨_, rfl⟩
  have HMI := Lib.hid (show mi = true ↔ L.head? = some 45 by
    rw [hmi, hhd]
    have := u8_eq s[0] 45
    rw [show (((45 : UInt8).toNat : Nat) : Int) = 45 from rfl] at this
    rw [this, decide_eq_true_eq]
    simp)
  have hmi' := hmi.symm
  have HBD := Lib.hid (show bodyZ L = L.drop (if mi = true then 1 else 0) by
    unfold bodyZ
    by_cases h : mi = true
    · rw [if_pos (HMI.out.1 h), if_pos h]; simp
    · rw [if_neg (fun e => h (HMI.out.2 e)), if_neg h]; rfl)
  have HNV := Lib.hid (show numV L = if mi = true then -((valD 0 (L.drop 1) : Nat) : Int) else ((valD 0 L : Nat) : Int) by
    unfold numV
    by_cases h : mi = true
    · rw [if_pos (HMI.out.1 h), if_pos h]; simp
    · rw [if_neg (fun e => h (HMI.out.2 e)), if_neg h])
  have HNB := Lib.hid (fun (h : (bodyZ L).all digB = true) => (show numB L = (decide (itoa (numV L) = L) && wn (numV L) (-1000000000000000) 1000000000000000) by
    unfold numB wn; rw [decide_eq_true h0, decide_eq_true (show L.length ≤ 17 by omega), h]; rfl))
  have HNO := Lib.hid (fun (h : (bodyZ L).all digB = false) => (show numB L = false by unfold numB; rw [h]; simp))
  clear hat0 hhd h0 hmi
  go_enter Tryd.func46, Tryd.ntmps46
  go_wp2
  go_quiet (fail)
  go_wp2
  have hmi'' := hmi'
  go_loopw [4, 6] (fun nv i wr => ∃ k n : Nat, k ≤ s.size ∧ i = .int .i64 k ∧ nv = .int .i64 (n : Int) ∧ Below w.heap.size w wr ∧ n < 100000000000000000 ∧ Hid (n = valD 0 ((L.take k).drop (if mi = true then 1 else 0)) ∧ ∀ c ∈ (L.take k).drop (if mi = true then 1 else 0), digB c = true)) (fun _ i _ => s.size - (intOf i).toNat)
  case atStart => exact ⟨0, 0, by omega, rfl, rfl, by (repeat' (first | assumption | exact below_refl _ | refine bl_alloc ?_ _ | refine Below.setCell ?_ ?_ _ | refine below_draw ?_ | refine below_drewN ?_ _ | refine below_tr ?_ (by assumption))) <;> (first | omega | (simp; done) | (simp; omega)), by omega, Lib.hid ⟨by simp [valD], by simp⟩⟩
  case round =>
    obtain ⟨k, n, hk, rfl, rfl, hbw, hn17, HI⟩ := hrel
    rename World => wr
    have k0 : (0 : Int) ≤ (k : Int) := Int.natCast_nonneg _
    have n0 : (0 : Int) ≤ (n : Int) := Int.natCast_nonneg _
    by_cases hlt : k < s.size
    · have k1 : (k : Int) < (s.size : Int) := by omega
      have hat := HAT.out k hlt
      obtain ⟨h1, h2⟩ := HI.out
      by_cases hsk : k = 0 ∧ mi = true
      · obtain ⟨rfl, rfl⟩ := hsk
        have hn0 : n = 0 := by rw [h1]; simp [valD]
        have HN := Lib.hid (show n = valD 0 ((L.take (0 + 1)).drop (if true = true then 1 else 0)) ∧ ∀ c ∈ (L.take (0 + 1)).drop (if true = true then 1 else 0), digB c = true by
          have e : (L.take (0 + 1)).drop (if true = true then 1 else 0) = [] := by
            rw [if_pos rfl]; apply List.drop_eq_nil_of_le; rw [List.length_take]; omega
          rw [e]; exact ⟨hn0, by simp⟩)
        clear h1 h2 HI hat hn0
        go_wp2
        go_roundw
        case rel => exact ⟨0 + 1, n, by omega, by go_num, rfl, hbw, hn17, Lib.hid HN.out⟩
        case measure => simp [intOf]; omega
      · have hkm : (if mi = true then 1 else 0) ≤ k := by
          split
          · rename_i h; have : ¬ k = 0 := fun e => hsk ⟨e, h⟩; omega
          · omega
        have hz : ((k : Int) == 0) = false ∨ (k = 0 ∧ mi = false) := by
          by_cases hk0 : k = 0
          · refine .inr ⟨hk0, ?_⟩
            cases hm : mi
            · rfl
            · exact absurd ⟨hk0, hm⟩ hsk
          · exact .inl (beq_eq_false_iff_ne.2 (by omega))
        have hdm := drop_more hat hkm
        have hin : s[k] ∈ bodyZ L := by
          rw [HBD.out]
          have : L.drop (if mi = true then 1 else 0) = (L.take (k + 1)).drop (if mi = true then 1 else 0) ++ (L.drop (k + 1)) := by
            conv => lhs; rw [← List.take_append_drop (k + 1) L]
            rw [List.drop_append_of_le_length (by rw [List.length_take]; omega)]
          rw [this, hdm]; simp
        by_cases hdg : digB s[k] = true
        · have hdd : 48 ≤ s[k].toNat ∧ s[k].toNat ≤ 57 := by unfold digB at hdg; exact of_decide_eq_true hdg
          have HN := Lib.hid (show n * 10 + (s[k].toNat - 48) = valD 0 ((L.take (k + 1)).drop (if mi = true then 1 else 0)) ∧ ∀ c ∈ (L.take (k + 1)).drop (if mi = true then 1 else 0), digB c = true by
            rw [hdm, valD_snoc, ← h1]
            refine ⟨rfl, fun c hc => ?_⟩
            rcases List.mem_append.1 hc with hc | hc
            · exact h2 c hc
            · simp at hc; rw [hc]; exact hdg)
          have hb17 : n * 10 + (s[k].toNat - 48) < 100000000000000000 := by
            have h3 := valD_lt ((L.take (k + 1)).drop (if mi = true then 1 else 0)) 0 HN.out.2
            rw [← HN.out.1] at h3
            have h4 : ((L.take (k + 1)).drop (if mi = true then 1 else 0)).length ≤ 17 := by rw [List.length_drop, List.length_take]; omega
            have h5 : 10 ^ ((L.take (k + 1)).drop (if mi = true then 1 else 0)).length ≤ 10 ^ 17 := Nat.pow_le_pow_right (by omega) h4
            omega
          have c0 : (48 : Int) ≤ (s[k].toNat : Int) := by omega
          have c1 : (s[k].toNat : Int) ≤ 57 := by omega
          have cl : ¬ (s[k].toNat : Int) < 48 := by omega
          have cg : ¬ (57 : Int) < (s[k].toNat : Int) := by omega
          have w1 : IntKind.u8.wrap ((s[k].toNat : Int) - 48) = (s[k].toNat : Int) - 48 := by simp [IntKind.wrap, IntKind.bits, IntKind.signed]; omega
          have w2 : IntKind.i64.wrap (10 * (n : Int)) = 10 * (n : Int) := fits_wrapU ⟨by omega, by omega⟩
          have w3 : IntKind.i64.wrap ((s[k].toNat : Int) - 48) = (s[k].toNat : Int) - 48 := fits_wrapU ⟨by omega, by omega⟩
          have w4 : IntKind.i64.wrap (10 * (n : Int) + ((s[k].toNat : Int) - 48)) = 10 * (n : Int) + ((s[k].toNat : Int) - 48) := fits_wrapU ⟨by omega, by omega⟩
          have HV := Lib.hid (show (10 * (n : Int) + ((s[k].toNat : Int) - 48)) = ((n * 10 + (s[k].toNat - 48) : Nat) : Int) by omega)
          have HB17 := Lib.hid hb17
          clear h1 h2 HI hat hin hdg hdd hdm hkm hsk hb17
          rcases hz with hz | ⟨rfl, rfl⟩
          · go_wp2
            go_roundw
            case rel => exact ⟨k + 1, n * 10 + (s[k].toNat - 48), by omega, by go_num, by rw [HV.out], hbw, HB17.out, Lib.hid HN.out⟩
            case measure => simp [intOf]; omega
          · go_wp2
            go_roundw
            case rel => exact ⟨0 + 1, n * 10 + (s[0].toNat - 48), by omega, by go_num, by rw [HV.out], hbw, HB17.out, Lib.hid HN.out⟩
            case measure => simp [intOf]; omega
        · have hb : numB L = false := HNO.out (List.all_eq_false.2 ⟨s[k], hin, by simpa using hdg⟩)
          have HB := Lib.hid hb
          have hdd : (s[k].toNat : Int) < 48 ∨ (57 : Int) < (s[k].toNat : Int) := by
            have : ¬ (48 ≤ s[k].toNat ∧ s[k].toNat ≤ 57) := fun h => hdg (by unfold digB; exact decide_eq_true h)
            omega
          clear h1 h2 HI hat hin hdg hdm hkm hsk hb
          rcases hz with hz | ⟨rfl, rfl⟩ <;> rcases hdd with hdd | hdd
          · go_wp2
            go_ret2
            exact num_ret HB.out (fun h => by rw [HB.out] at h; cases h) hbw
          · have hnl : ¬ (s[k].toNat : Int) < 48 := by omega
            go_wp2
            go_ret2
            exact num_ret HB.out (fun h => by rw [HB.out] at h; cases h) hbw
          · go_wp2
            go_ret2
            exact num_ret HB.out (fun h => by rw [HB.out] at h; cases h) hbw
          · have hnl : ¬ (s[0].toNat : Int) < 48 := by omega
            go_wp2
            go_ret2
            exact num_ret HB.out (fun h => by rw [HB.out] at h; cases h) hbw
    · obtain rfl : k = s.size := by omega
      obtain ⟨h1, h2⟩ := HI.out
      have htk : L.take s.size = L := List.take_of_length_le (by omega)
      rw [htk] at h1 h2
      have hall : (bodyZ L).all digB = true := by rw [HBD.out]; exact List.all_eq_true.2 h2
      have HB := Lib.hid (HNB.out hall)
      have HVV := Lib.hid (show numV L = if mi = true then -(n : Int) else (n : Int) by
        rw [HNV.out]
        cases mi
        · rw [if_neg (by simp), if_neg (by simp), h1]; rfl
        · rw [if_pos rfl, if_pos rfl, h1]; rfl)
      clear h1 h2 HI htk hall
      have wn1 : IntKind.i64.wrap (-(n : Int)) = -(n : Int) := fits_wrapU ⟨by omega, by omega⟩
      cases mi
      · have HVn := Lib.hid (show numV L = (n : Int) by rw [HVV.out, if_neg (by simp)])
        rw [HVn.out] at HB
        have HD := Lib.hid (r_Digits (n : Int) wr (by omega) (by omega))
        have hq := HEQ.out (n : Int)
        generalize (⟨(itoa (n : Int)).toArray⟩ : ByteArray) = ST at HD hq
        cases hd : decide (itoa (n : Int) = L)
        · rw [hd] at hq HB
          have HB2 := Lib.hid (show numB L = false by rw [HB.out]; rfl)
          clear HB hd HVV
          go_wp2_with (go_at_call 47; ((with_reducible refine HD.out.mono ?_); rintro e w3 ⟨rfl, hb3⟩))
          go_ret2
          exact num_ret HB2.out (fun h => by rw [HB2.out] at h; cases h) (below_tr hbw hb3)
        · rw [hd] at hq HB
          have HB2 := Lib.hid (show numB L = wn (n : Int) (-1000000000000000) 1000000000000000 by rw [HB.out]; rfl)
          clear HB hd HVV
          go_wp2_with (first
            | (go_at_call 47; ((with_reducible refine HD.out.mono ?_); rintro e w3 ⟨rfl, hb3⟩))
            | (go_at_call 85; ((with_reducible refine (r_within6 _ _ _ _).mono ?_); rintro e w' ⟨rfl, rfl⟩)))
          go_ret2
          exact num_ret HB2.out (fun _ => HVn.out.symm) (below_tr hbw hb3)
      · have HVn := Lib.hid (show numV L = -(n : Int) by rw [HVV.out, if_pos rfl])
        rw [HVn.out] at HB
        have HD := Lib.hid (r_Digits (-(n : Int)) wr (by omega) (by omega))
        have hq := HEQ.out (-(n : Int))
        generalize (⟨(itoa (-(n : Int))).toArray⟩ : ByteArray) = ST at HD hq
        cases hd : decide (itoa (-(n : Int)) = L)
        · rw [hd] at hq HB
          have HB2 := Lib.hid (show numB L = false by rw [HB.out]; rfl)
          clear HB hd HVV
          go_wp2_with (go_at_call 47; ((with_reducible refine HD.out.mono ?_); rintro e w3 ⟨rfl, hb3⟩))
          go_ret2
          exact num_ret HB2.out (fun h => by rw [HB2.out] at h; cases h) (below_tr hbw hb3)
        · rw [hd] at hq HB
          have HB2 := Lib.hid (show numB L = wn (-(n : Int)) (-1000000000000000) 1000000000000000 by rw [HB.out]; rfl)
          clear HB hd HVV
          go_wp2_with (first
            | (go_at_call 47; ((with_reducible refine HD.out.mono ?_); rintro e w3 ⟨rfl, hb3⟩))
            | (go_at_call 85; ((with_reducible refine (r_within6 _ _ _ _).mono ?_); rintro e w' ⟨rfl, rfl⟩)))
          go_ret2
          exact num_ret HB2.out (fun _ => HVn.out.symm) (below_tr hbw hb3)
end Go.Proofs.YtoelekhkgknneaaDoor
