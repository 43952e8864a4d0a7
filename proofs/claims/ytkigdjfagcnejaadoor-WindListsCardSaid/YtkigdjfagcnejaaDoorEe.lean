/- Wind cards: WindLists walked. -/
import Derived.Test.YtkigdjfagcnejaaDoorEd
set_option linter.unusedSimpArgs false
set_option linter.unusedVariables false
namespace Go.Proofs.YtkigdjfagcnejaaDoor
open Go.RowKit

theorem manyB_le {l : List Int} (h : manyB l = false) : l.length ≤ 100000 := by
  unfold manyB at h
  rw [Bool.or_eq_false_iff, decide_eq_false_iff_not] at h
  omega
set_option maxHeartbeats 4000000 in
set_option maxRecDepth 20000 in
theorem l_WindLists (A : Option Addr) (l : List Int) (c : Nat) (B : Option Addr) (m : List Int) (d : Nat) (D : Option Addr) (rs : List Ru) (d' : Nat) (fr tu : Int) (w : World)
    (hl0 : l.length ≤ maxLen) (hR : Rd zC 1 w A l) (hc : l.length ≤ c) (hcm : c ≤ maxLen) (hm0 : m.length ≤ maxLen) (hS : Rd zC 1 w B m) (hr0 : rs.length ≤ maxLen) (hT : Rd Ru.cs 3 w D rs) :
    Calls Tryd.prog 8 #[.slice A l.length c, .slice B m.length d, .slice D rs.length d', .int .i64 fr, .int .i64 tu] w fun e w' => e = .returned (.bool true) ∧ Below w.heap.size w w' := by
  have HMA := Lib.hid (fun b (h : manyB l = b) W => h ▸ p_many A l c W hl0)
  have HMB := Lib.hid (fun b (h : manyB m = b) W => h ▸ p_many B m d W hm0)
  unfold maxLen at hl0 hm0 hr0
  go_enter Tryd.func8, Tryd.ntmps8
  go_wp2_with fail
  refine (l_awake w).mono ?_
  rintro e w1 ⟨rfl, B1⟩
  cases h1 : manyB l
  rotate_left
  · go_wp2_with (go_at_call 15; ((with_reducible refine (HMA.out _ h1 _).mono ?_); rintro e w' ⟨rfl, rfl⟩))
    go_ret
    exact ⟨rfl, B1⟩
  cases h2 : manyB m
  rotate_left
  · go_wp2_with (first | (go_at_call 15; ((with_reducible refine (HMA.out _ h1 _).mono ?_); rintro e w' ⟨rfl, rfl⟩)) | (go_at_call 15; ((with_reducible refine (HMB.out _ h2 _).mono ?_); rintro e w' ⟨rfl, rfl⟩)))
    go_ret
    exact ⟨rfl, B1⟩
  by_cases h3 : 30 < (rs.length : Int)
  · go_wp2_with (first | (go_at_call 15; ((with_reducible refine (HMA.out _ h1 _).mono ?_); rintro e w' ⟨rfl, rfl⟩)) | (go_at_call 15; ((with_reducible refine (HMB.out _ h2 _).mono ?_); rintro e w' ⟨rfl, rfl⟩)))
    go_ret
    exact ⟨rfl, B1⟩
  have hl := manyB_le h1
  have hm := manyB_le h2
  have hrl : rs.length ≤ 100000 := by omega
  go_wp2_with (first | (go_at_call 15; ((with_reducible refine (HMA.out _ h1 _).mono ?_); rintro e w' ⟨rfl, rfl⟩)) | (go_at_call 15; ((with_reducible refine (HMB.out _ h2 _).mono ?_); rintro e w' ⟨rfl, rfl⟩)) | (go_at_call 39; fail))
  clear HMA HMB h1 h2
  refine (p_Strictest A D l rs c d' w1 hl hrl (hR.on B1) (hT.on B1)).mono ?_
  rintro e w2 ⟨rfl, hb2⟩
  have B2 := below_tr B1 hb2
  have HS2 := Lib.hid (r_Strictest A D l rs c d' w2 hl hrl (hR.on B2) (hT.on B2))
  clear hb2 B1
  generalize stN l rs = N1 at *
  generalize stE l rs = E1 at *
  go_wp2_with fail
  refine HS2.out.mono ?_
  rintro e w3 ⟨rfl, hb3⟩
  have B3 := below_tr B2 hb3
  clear hb3 B2 HS2
  go_wp2_with fail
  refine (p_Highest A l c fr tu w3 hl hc hcm (hR.on B3)).mono ?_
  rintro e w4 ⟨rfl, hb4⟩
  have B4 := below_tr B3 hb4
  have HS2 := Lib.hid (r_Highest A l c fr tu w4 hl (hR.on B4))
  clear hb4 B3
  generalize hiN l fr tu = N2 at *
  generalize hiE l fr tu = E2 at *
  go_wp2_with fail
  refine HS2.out.mono ?_
  rintro e w5 ⟨rfl, hb5⟩
  have B5 := below_tr B4 hb5
  clear hb5 B4 HS2
  have hz : (msL l).length ≤ 100000 := by
    unfold msL
    split
    · exact Nat.le_trans (spS_len _ _) hl
    · exact Nat.zero_le _
  go_wp2_with fail
  refine (p_Missing A l c w5 hl (hR.on B5)).mono ?_
  rintro e w6 ⟨v6, rfl, ⟨A6, c6, rfl, r6⟩, hb6⟩
  have B6 := below_tr B5 hb6
  clear hb6 B5
  go_wp2_with fail
  refine (r_Missing A l c w6 hl (hR.on B6)).mono ?_
  rintro e w7 ⟨v7, rfl, ⟨A7, c7, rfl, r7⟩, hb7⟩
  have B7 := below_tr B6 hb7
  have s7 := r6.on hb7
  clear hb7 B6 r6
  have HSS := Lib.hid (r_sameSpans A6 A7 (msL l) c6 c7 w7 hz s7 r7)
  clear s7 r7 hz
  generalize msL l = M at *
  generalize msE l = E3 at *
  go_wp2_with fail
  refine HSS.out.mono ?_
  rintro e w8 ⟨rfl, hb8⟩
  have B8 := below_tr B7 hb8
  clear hb8 B7 HSS
  have hz : (joL l m).length ≤ 100000 := by
    unfold joL
    split
    · rw [joF_len]; exact hl
    · exact Nat.zero_le _
  go_wp2_with fail
  refine (p_Joined A B l m c d w8 hl hm (hR.on B8) (hS.on B8)).mono ?_
  rintro e w9 ⟨v9, rfl, ⟨A9, c9, rfl, r9⟩, hb9⟩
  have B9 := below_tr B8 hb9
  clear hb9 B8
  go_wp2_with fail
  refine (r_Joined A B l m c d w9 hl hm (hR.on B9) (hS.on B9)).mono ?_
  rintro e w10 ⟨v10, rfl, ⟨A10, c10, rfl, r10⟩, hb10⟩
  have B10 := below_tr B9 hb10
  have s10 := r9.on hb10
  clear hb10 B9 r9
  have HSI := Lib.hid (r_sameInts A9 A10 (joL l m) c9 c10 w10 hz s10 r10)
  clear s10 r10 hz
  generalize joL l m = J at *
  generalize joE l m = E4 at *
  go_wp2_with fail
  refine HSI.out.mono ?_
  rintro e w11 ⟨rfl, hb11⟩
  have B11 := below_tr B10 hb11
  go_wp2
  go_ret
  exact ⟨ret_bool (by simp), B11⟩
end Go.Proofs.YtkigdjfagcnejaaDoor
