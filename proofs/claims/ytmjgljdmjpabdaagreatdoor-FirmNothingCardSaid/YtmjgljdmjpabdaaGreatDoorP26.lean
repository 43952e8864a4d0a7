/- The parts of the proof, part 26. -/
import Derived.Test.YtmjgljdmjpabdaaGreatDoorP0
import Derived.Test.YtmjgljdmjpabdaaGreatDoorP19
import Derived.Test.YtmjgljdmjpabdaaGreatDoorP20
set_option linter.unusedSimpArgs false
set_option linter.unusedVariables false
namespace Go.Proofs.YtmjgljdmjpabdaaGreatDoor.Fi
open Go.RowKit Go.Lib Tx
open G in
set_option maxHeartbeats 2000000 in
set_option maxRecDepth 20000 in
theorem f_isName (s : ByteArray) (w : World) (hs : s.size ≤ maxLen) :
    Calls Tryz.prog 255 #[.string s] w fun e w' => e = .returned (.bool (nmB s)) ∧ w = w' := by
  unfold maxLen at hs
  go_enter Tryz.func255, Tryz.ntmps255
  go_wp2
  go_loop [7] (fun i => ∃ k : Nat, k ≤ s.size ∧ i = .int .i64 k ∧ Hid ((List.range k).all (fun k => chB k (chAt s k)) = true)) (fun i => s.size - (RowKit.intOf i).toNat)
  case atStart => exact ⟨0, by omega, rfl, Lib.hid rfl⟩
  case round =>
    obtain ⟨k, hk, rfl, HI⟩ := hrel
    have k0 : (0 : Int) ≤ (k : Int) := Int.natCast_nonneg _
    by_cases hlt : k < s.size
    · have k1 : (k : Int) < (s.size : Int) := by omega
      have HC := Lib.hid (chAt_of hlt)
      obtain ⟨z, hz⟩ : ∃ z, ((k : Int) == 0) = z := ⟨_, rfl⟩
      have HZ := Lib.hid (show k = 0 ↔ z = true by rw [← hz]; simp)
      cases z
      all_goals
        rcases (by omega : ((s[k].toNat : Int) < 48) ∨ (48 ≤ (s[k].toNat : Int) ∧ (s[k].toNat : Int) ≤ 57) ∨ (57 < (s[k].toNat : Int) ∧ (s[k].toNat : Int) < 95) ∨ ((s[k].toNat : Int) = 95) ∨ (95 < (s[k].toNat : Int) ∧ (s[k].toNat : Int) < 97) ∨ (97 ≤ (s[k].toNat : Int) ∧ (s[k].toNat : Int) ≤ 122) ∨ (122 < (s[k].toNat : Int))) with hc | hc | hc | hc | hc | hc | hc
        · have t0 : decide ((s[k].toNat : Int) < 97) = true := by simp; omega
          have t1 : decide (122 < (s[k].toNat : Int)) = false := by simp; omega
          have t2 : ((s[k].toNat : Int) != 95) = true := by simp; omega
          have t3 : decide ((s[k].toNat : Int) < 48) = true := by simp; omega
          have t4 : decide (57 < (s[k].toNat : Int)) = false := by simp; omega
          have HCC := Lib.hid hc
          clear hc
          go_wp2
          all_goals first
            | (go_ret; exact ⟨ret_bool (by rw [nm_no hlt (chB_no.2 (by have hz := HZ.out; have hc := HCC.out; rw [HC.out] at hc; simp at hz; omega))]), rfl⟩)
            | (go_round; (case rel => exact ⟨k + 1, by omega, by go_num, Lib.hid (nm_step HI.out (chB_yes.2 (by have hz := HZ.out; have hc := HCC.out; rw [HC.out] at hc; simp at hz; omega)))⟩); (case measure => simp [RowKit.intOf]; omega))
        · have t0 : decide ((s[k].toNat : Int) < 97) = true := by simp; omega
          have t1 : decide (122 < (s[k].toNat : Int)) = false := by simp; omega
          have t2 : ((s[k].toNat : Int) != 95) = true := by simp; omega
          have t3 : decide ((s[k].toNat : Int) < 48) = false := by simp; omega
          have t4 : decide (57 < (s[k].toNat : Int)) = false := by simp; omega
          have HCC := Lib.hid hc
          clear hc
          go_wp2
          all_goals first
            | (go_ret; exact ⟨ret_bool (by rw [nm_no hlt (chB_no.2 (by have hz := HZ.out; have hc := HCC.out; rw [HC.out] at hc; simp at hz; omega))]), rfl⟩)
            | (go_round; (case rel => exact ⟨k + 1, by omega, by go_num, Lib.hid (nm_step HI.out (chB_yes.2 (by have hz := HZ.out; have hc := HCC.out; rw [HC.out] at hc; simp at hz; omega)))⟩); (case measure => simp [RowKit.intOf]; omega))
        · have t0 : decide ((s[k].toNat : Int) < 97) = true := by simp; omega
          have t1 : decide (122 < (s[k].toNat : Int)) = false := by simp; omega
          have t2 : ((s[k].toNat : Int) != 95) = true := by simp; omega
          have t3 : decide ((s[k].toNat : Int) < 48) = false := by simp; omega
          have t4 : decide (57 < (s[k].toNat : Int)) = true := by simp; omega
          have HCC := Lib.hid hc
          clear hc
          go_wp2
          all_goals first
            | (go_ret; exact ⟨ret_bool (by rw [nm_no hlt (chB_no.2 (by have hz := HZ.out; have hc := HCC.out; rw [HC.out] at hc; simp at hz; omega))]), rfl⟩)
            | (go_round; (case rel => exact ⟨k + 1, by omega, by go_num, Lib.hid (nm_step HI.out (chB_yes.2 (by have hz := HZ.out; have hc := HCC.out; rw [HC.out] at hc; simp at hz; omega)))⟩); (case measure => simp [RowKit.intOf]; omega))
        · have t0 : decide ((s[k].toNat : Int) < 97) = true := by simp; omega
          have t1 : decide (122 < (s[k].toNat : Int)) = false := by simp; omega
          have t2 : ((s[k].toNat : Int) != 95) = false := by simp; omega
          have t3 : decide ((s[k].toNat : Int) < 48) = false := by simp; omega
          have t4 : decide (57 < (s[k].toNat : Int)) = true := by simp; omega
          have HCC := Lib.hid hc
          clear hc
          go_wp2
          all_goals first
            | (go_ret; exact ⟨ret_bool (by rw [nm_no hlt (chB_no.2 (by have hz := HZ.out; have hc := HCC.out; rw [HC.out] at hc; simp at hz; omega))]), rfl⟩)
            | (go_round; (case rel => exact ⟨k + 1, by omega, by go_num, Lib.hid (nm_step HI.out (chB_yes.2 (by have hz := HZ.out; have hc := HCC.out; rw [HC.out] at hc; simp at hz; omega)))⟩); (case measure => simp [RowKit.intOf]; omega))
        · have t0 : decide ((s[k].toNat : Int) < 97) = true := by simp; omega
          have t1 : decide (122 < (s[k].toNat : Int)) = false := by simp; omega
          have t2 : ((s[k].toNat : Int) != 95) = true := by simp; omega
          have t3 : decide ((s[k].toNat : Int) < 48) = false := by simp; omega
          have t4 : decide (57 < (s[k].toNat : Int)) = true := by simp; omega
          have HCC := Lib.hid hc
          clear hc
          go_wp2
          all_goals first
            | (go_ret; exact ⟨ret_bool (by rw [nm_no hlt (chB_no.2 (by have hz := HZ.out; have hc := HCC.out; rw [HC.out] at hc; simp at hz; omega))]), rfl⟩)
            | (go_round; (case rel => exact ⟨k + 1, by omega, by go_num, Lib.hid (nm_step HI.out (chB_yes.2 (by have hz := HZ.out; have hc := HCC.out; rw [HC.out] at hc; simp at hz; omega)))⟩); (case measure => simp [RowKit.intOf]; omega))
        · have t0 : decide ((s[k].toNat : Int) < 97) = false := by simp; omega
          have t1 : decide (122 < (s[k].toNat : Int)) = false := by simp; omega
          have t2 : ((s[k].toNat : Int) != 95) = true := by simp; omega
          have t3 : decide ((s[k].toNat : Int) < 48) = false := by simp; omega
          have t4 : decide (57 < (s[k].toNat : Int)) = true := by simp; omega
          have HCC := Lib.hid hc
          clear hc
          go_wp2
          all_goals first
            | (go_ret; exact ⟨ret_bool (by rw [nm_no hlt (chB_no.2 (by have hz := HZ.out; have hc := HCC.out; rw [HC.out] at hc; simp at hz; omega))]), rfl⟩)
            | (go_round; (case rel => exact ⟨k + 1, by omega, by go_num, Lib.hid (nm_step HI.out (chB_yes.2 (by have hz := HZ.out; have hc := HCC.out; rw [HC.out] at hc; simp at hz; omega)))⟩); (case measure => simp [RowKit.intOf]; omega))
        · have t0 : decide ((s[k].toNat : Int) < 97) = false := by simp; omega
          have t1 : decide (122 < (s[k].toNat : Int)) = true := by simp; omega
          have t2 : ((s[k].toNat : Int) != 95) = true := by simp; omega
          have t3 : decide ((s[k].toNat : Int) < 48) = false := by simp; omega
          have t4 : decide (57 < (s[k].toNat : Int)) = true := by simp; omega
          have HCC := Lib.hid hc
          clear hc
          go_wp2
          all_goals first
            | (go_ret; exact ⟨ret_bool (by rw [nm_no hlt (chB_no.2 (by have hz := HZ.out; have hc := HCC.out; rw [HC.out] at hc; simp at hz; omega))]), rfl⟩)
            | (go_round; (case rel => exact ⟨k + 1, by omega, by go_num, Lib.hid (nm_step HI.out (chB_yes.2 (by have hz := HZ.out; have hc := HCC.out; rw [HC.out] at hc; simp at hz; omega)))⟩); (case measure => simp [RowKit.intOf]; omega))
    · obtain rfl : k = s.size := by omega
      have HN := Lib.hid (nm_yes HI.out)
      go_wp2_with (go_at_call 70; ((with_reducible refine (f_within _ _ _ _).mono ?_); rintro e w' ⟨rfl, rfl⟩))
      go_ret
      exact ⟨ret_bool HN.out.symm, rfl⟩
set_option maxHeartbeats 4000000 in
set_option maxRecDepth 20000 in
theorem d_call (b : ByteArray) (T : Nat → Prop) (nb sb rb : Nat) (L : LS) (w : World) (hN : Nxt T nb sb rb w L) (hI : Inv L.val) (hbs : b.size ≤ maxLen) :
    Calls Tryz.prog 253 #[.agg #[.string b], .pointer (some ⟨nb, 0, none⟩)] w (DeedP (.call b) T nb sb rb L w) := by
  have x0 := Blk.new w 162 #[.string b]
  have B0 := bl_alloc (below_refl w) (.cells #[.string b] 162)
  have b0 := x0.cell 0
  simp only [List.getElem?_toArray, List.getElem?_cons_zero, List.getElem?_cons_succ] at b0
  have hN0 := hN.on B0
  have lnb := hN0.lt
  have lw := x0.lt
  have hfn := hN0.blk.frozen
  have hbl : L.back.l.length ≤ 100 := hI.bl
  have HNM := Lib.hid (fun W => f_isName b W hbs)
  have HX2 := Lib.hid (show deed (.call b) L.val = if G.nmB b = false then .error 1 else if G.hasB L.back.l b = true then .error 6 else if ¬ L.back.l.length < 100 then .error 4 else .ok { L.val with back := L.back.l ++ [b] } by
    rw [← memB_is]; rfl)
  cases hnm : G.nmB b
  · have HX := Lib.hid (show deed (.call b) L.val = .error 1 by rw [HX2.out, if_pos hnm])
    rw [hnm] at HNM
    go_enter Tryz.func253, Tryz.ntmps253
    go_wp2_with (first | (go_at_call 255; ((with_reducible refine (HNM.out _).mono ?_); rintro e w' ⟨rfl, rfl⟩)) | (go_at_call 131; ((with_reducible refine (f_must_no _ _).mono ?_); rintro e w' ⟨rfl, rfl⟩)))
    exact ⟨rfl, deed_err HX.out B0⟩
  rw [hnm] at HNM
  have c22 : (w.alloc (.cells #[.string b] 162)).cell? ⟨nb, 22, none⟩ = some (.slice L.back.a L.back.l.length L.back.c) := hN0.cel 22 _ rfl
  obtain ⟨i0, hi, hi1, hi2, hi3⟩ := info_Str
  go_enter Tryz.func253, Tryz.ntmps253
  go_upto_region 2 with (first | (go_at_call 255; ((with_reducible refine (HNM.out _).mono ?_); rintro e w' ⟨rfl, rfl⟩)) | (go_at_call 131; ((with_reducible refine (f_must_ok _ _).mono ?_); rintro e w' ⟨rfl, rfl⟩)))
  generalize (w.alloc (.cells #[.string b] 162)) = w1 at *
  have HCT := Lib.hid (fun w' (h : Below w1.heap.size w1 w') => G.p_contains L.back.a L.back.l L.back.c b w' (by omega) (hN0.on h).back.rd)
  have HCL := Lib.hid (fun w' (h : Below w1.heap.size w1 w') => (show Calls Tryz.prog 61 #[.slice L.back.a L.back.l.length L.back.c] w' (CloP G.sC 1 9 L.back.l w') from c_CloneStr L.back w' (by omega) (hN0.on h).back.rd))
  have HN0 := Lib.hid hN0
  clear hI hN0
  cases hct : G.hasB L.back.l b
  rotate_left
  · rw [hct] at HCT
    have HX := Lib.hid (show deed (.call b) L.val = .error 6 by rw [HX2.out, if_neg (by rw [hnm]; simp), if_pos hct])
    refine wp_region_held_drew (S := (fun w' => (∀ b o, b < w1.heap.size → w'.cell? ⟨b, o, none⟩ = w1.cell? ⟨b, o, none⟩) ∧ (∀ b o, b < w1.heap.size → w'.frozen? ⟨b, o, none⟩ = w1.frozen? ⟨b, o, none⟩) ∧ Below w1.heap.size w1 w')) (by kernel_rfl) (kq_draw kq_refl) (fun hS0 => ?_)
    refine tk 0 8 ?gv1 rfl (by kernel_rfl) ?hq2 ?gy1 (by assumption) ?_
    case hq2 => (intro c a w h; exact h)
    case gy1 => (intro w' hSw; go_simp; try with_reducible rfl)
    try simp only [AP]
    refine tk 1 9 ?gv3 rfl (by kernel_rfl) ?hq4 ?gy3 (by assumption) ?_
    case hq4 => (intro c a w h; exact h)
    case gy3 => (intro w' hSw; go_simp; try with_reducible rfl)
    try simp only [AP]
    refine tk 2 10 ?gv5 rfl (by kernel_rfl) ?hq6 ?gy5 (by assumption) ?_
    case hq6 => (intro c a w h; exact h)
    case gy5 => (intro w' hSw; go_simp; try with_reducible rfl)
    try simp only [AP]
    refine tk 3 11 ?gv7 rfl (by kernel_rfl) ?hq8 ?gy7 (by assumption) ?_
    case hq8 => (intro c a w h; exact h)
    case gy7 => (intro w' hSw; go_simp; try with_reducible rfl)
    try simp only [AP]
    refine tk 4 12 ?gv9 rfl (by kernel_rfl) ?hq10 ?gy9 (by assumption) ?_
    case hq10 => (intro c a w h; exact h)
    case gy9 => (intro w' hSw; go_simp; try with_reducible rfl)
    try simp only [AP]
    refine tk 5 13 ?gv11 rfl (by kernel_rfl) ?hq12 ?gy11 (by assumption) ?_
    case hq12 => (intro c a w h; exact h)
    case gy11 => (intro w' hSw; go_simp; try with_reducible rfl)
    try simp only [AP]
    refine wpAnyH_ready (rs := [6]) (by kernel_rfl) (by simp) ?_
    refine AllReadyH.cons rfl (fun K hK => ?_) AllReadyH.nil
    go_simp
    (go_at_call 86; ((with_reducible refine (HCT.out _ (by (repeat' (first | assumption | exact below_refl _ | refine bl_alloc ?_ _ | refine Below.setCell ?_ ?_ _ | refine below_draw ?_ | refine below_drewN ?_ _ | refine below_tr ?_ (by assumption))) <;> (first | omega | (simp; done) | (simp; omega)))).mono ?_); rintro e w' ⟨rfl, rfl⟩))
    refine hK.out _ _ (by ((show Kq w1 _); (repeat' (first | assumption | exact kq_refl | refine kq_draw ?_ | refine kq_drewN ?_ | refine kq_alloc ?_ | refine kq_set ?_ ?_ | refine kq_step ?_ (by assumption))); (all_goals (first | omega | (simp; omega))))) (fun hS1 => ?_)
    clear hK K
    try simp only [AP]
    refine tk 7 15 ?gv13 rfl (by kernel_rfl) ?hq14 ?gy13 (by assumption) ?_
    case hq14 => (intro c a w h; exact h)
    case gy13 => (intro w' hSw; go_simp; try with_reducible rfl)
    try simp only [AP]
    refine wpAnyH_ready (rs := [8]) (by kernel_rfl) (by simp) ?_
    refine AllReadyH.cons rfl (fun K hK => ?_) AllReadyH.nil
    go_simp
    (go_at_call 131; ((with_reducible refine (f_must_no _ _).mono ?_); rintro e w' ⟨rfl, rfl⟩))
    exact ⟨rfl, deed_err HX.out (by (repeat' (first | assumption | exact below_refl _ | refine bl_alloc ?_ _ | refine Below.setCell ?_ ?_ _ | refine below_draw ?_ | refine below_drewN ?_ _ | refine below_tr ?_ (by assumption))) <;> (first | omega | (simp; done) | (simp; omega)))⟩
  rw [hct] at HCT
  have HXA := Lib.hid (show deed (.call b) L.val = if ¬ L.back.l.length < 100 then .error 4 else .ok { L.val with back := L.back.l ++ [b] } by rw [HX2.out, if_neg (by rw [hnm]; simp), if_neg (by rw [hct]; simp)])
  refine wp_region_noPanic ?_
  refine wp_region_held_drew (S := (fun w' => (∀ b o, b < w1.heap.size → w'.cell? ⟨b, o, none⟩ = w1.cell? ⟨b, o, none⟩) ∧ (∀ b o, b < w1.heap.size → w'.frozen? ⟨b, o, none⟩ = w1.frozen? ⟨b, o, none⟩) ∧ Below w1.heap.size w1 w')) (by kernel_rfl) (kq_draw kq_refl) (fun hS0 => ?_)
  refine tk 0 8 ?gv15 rfl (by kernel_rfl) (fun _ _ _ h => h) ?gy15 (by assumption) ?_
  case gy15 => (intro w' hSw; go_simp; try with_reducible rfl)
  try simp only [AP]
  refine tk 1 9 ?gv16 rfl (by kernel_rfl) (fun _ _ _ h => h) ?gy16 (by assumption) ?_
  case gy16 => (intro w' hSw; go_simp; try with_reducible rfl)
  try simp only [AP]
  refine tk 2 10 ?gv17 rfl (by kernel_rfl) (fun _ _ _ h => h) ?gy17 (by assumption) ?_
  case gy17 => (intro w' hSw; go_simp; try with_reducible rfl)
  try simp only [AP]
  refine tk 3 11 ?gv18 rfl (by kernel_rfl) (fun _ _ _ h => h) ?gy18 (by assumption) ?_
  case gy18 => (intro w' hSw; go_simp; try with_reducible rfl)
  try simp only [AP]
  refine tk 4 12 ?gv19 rfl (by kernel_rfl) (fun _ _ _ h => h) ?gy19 (by assumption) ?_
  case gy19 => (intro w' hSw; go_simp; try with_reducible rfl)
  try simp only [AP]
  refine tk 5 13 ?gv20 rfl (by kernel_rfl) (fun _ _ _ h => h) ?gy20 (by assumption) ?_
  case gy20 => (intro w' hSw; go_simp; try with_reducible rfl)
  try simp only [AP]
  refine wpAnyH_ready (rs := [6]) (by kernel_rfl) (by simp) ?_
  refine AllReadyH.cons rfl (fun K hK => ?_) AllReadyH.nil
  go_simp
  (go_at_call 86; ((with_reducible refine (HCT.out _ (by (repeat' (first | assumption | exact below_refl _ | refine bl_alloc ?_ _ | refine Below.setCell ?_ ?_ _ | refine below_draw ?_ | refine below_drewN ?_ _ | refine below_tr ?_ (by assumption))) <;> (first | omega | (simp; done) | (simp; omega)))).mono ?_); rintro e w' ⟨rfl, rfl⟩))
  refine hK.out _ _ (by ((show Kq w1 _); (repeat' (first | assumption | exact kq_refl | refine kq_draw ?_ | refine kq_drewN ?_ | refine kq_alloc ?_ | refine kq_set ?_ ?_ | refine kq_step ?_ (by assumption))); (all_goals (first | omega | (simp; omega))))) (fun hS1 => ?_)
  clear hK K
  try simp only [AP]
  refine tk 7 15 ?gv21 rfl (by kernel_rfl) (fun _ _ _ h => h) ?gy21 (by assumption) ?_
  case gy21 => (intro w' hSw; go_simp; try with_reducible rfl)
  try simp only [AP]
  refine wpAnyH_ready (rs := [8]) (by kernel_rfl) (by simp) ?_
  refine AllReadyH.cons rfl (fun K hK => ?_) AllReadyH.nil
  go_simp
  (go_at_call 131; ((with_reducible refine (f_must_ok _ _).mono ?_); rintro e w' ⟨rfl, rfl⟩))
  refine hK.out _ _ (by ((show Kq w1 _); (repeat' (first | assumption | exact kq_refl | refine kq_draw ?_ | refine kq_drewN ?_ | refine kq_alloc ?_ | refine kq_set ?_ ?_ | refine kq_step ?_ (by assumption))); (all_goals (first | omega | (simp; omega))))) (fun hS2 => ?_)
  clear hK K
  try simp only [AP]
  refine wpAnyH_done (by kernel_rfl) (NoPanic.normal ?_) _
  clear hS0 hS1 hS2
  by_cases hlt : L.back.l.length < 100
  rotate_left
  · have g1 : decide (L.back.l.length < 100) = false := decide_eq_false hlt
    have g2 : decide ((L.back.l.length : Int) < 100) = false := decide_eq_false (by omega)
    have HX := Lib.hid (show deed (.call b) L.val = .error 4 by rw [HXA.out, if_pos hlt])
    go_wp2_with (go_at_call 131; ((with_reducible refine (f_must_no _ _).mono ?_); rintro e w' ⟨rfl, rfl⟩))
    exact ⟨rfl, deed_err HX.out (by (repeat' (first | assumption | exact below_refl _ | refine bl_alloc ?_ _ | refine Below.setCell ?_ ?_ _ | refine below_draw ?_ | refine below_drewN ?_ _ | refine below_tr ?_ (by assumption))) <;> (first | omega | (simp; done) | (simp; omega)))⟩
  have g1 : decide (L.back.l.length < 100) = true := decide_eq_true hlt
  have g2 : decide ((L.back.l.length : Int) < 100) = true := decide_eq_true (by omega)
  have HX := Lib.hid (show deed (.call b) L.val = .ok { L.val with back := L.back.l ++ [b] } by rw [HXA.out, if_neg (by omega)])
  go_upto_region 4 with (go_at_call 131; ((with_reducible refine (f_must_ok _ _).mono ?_); rintro e w' ⟨rfl, rfl⟩))
  obtain ⟨wq, hwq⟩ : ∃ x, x = w1.drew := ⟨_, rfl⟩
  have B1 : Below w1.heap.size w1 wq := by rw [hwq]; exact below_draw (below_refl _)
  have szq : wq.heap.size = w1.heap.size := by rw [hwq]; rfl
  have c22q : wq.cell? ⟨nb, 22, none⟩ = some (.slice L.back.a L.back.l.length L.back.c) := ((bcell B1).1 nb 22 lnb).trans c22
  have hfq := ((bcell B1).2 nb 22 lnb).trans (hfn 22)
  have b0q := ((bcell B1).1 w.heap.size 0 lw).trans b0
  have HCL := Lib.hid (fun w' (h : Below wq.heap.size wq w') => HCL.out w' (below_tr B1 h))
  rw [← hwq]
  clear hwq
  have lnq : nb < wq.heap.size := by omega
  have lwq : w.heap.size < wq.heap.size := by omega
  have HN1 := Lib.hid (HN0.out.on B1)
  have BQ := below_tr B0 B1
  have hne : w.heap.size ≠ nb := by have := hN.lt; omega
  clear b0 c22 hfn HN0 B1 x0 HCT B0 lnb lw szq
  refine wp_region_noPanic ?_
  refine wp_region_last 12 (fun w' => (∀ b o, b < wq.heap.size → w'.cell? ⟨b, o, none⟩ = wq.cell? ⟨b, o, none⟩) ∧ (∀ b o, b < wq.heap.size → w'.frozen? ⟨b, o, none⟩ = wq.frozen? ⟨b, o, none⟩) ∧ Below wq.heap.size wq w') (by kernel_rfl) (kq_draw kq_refl) (fun hS0 => ?_)
  refine wpAnyL_take (i := 0) (oi := { dst := some 24, op := _, type := _, pos := _, after := _, guard := none }) (v := ?gv22) rfl (by kernel_rfl) (by kernel_rfl) (by kernel_rfl) (by kernel_rfl) (by kernel_rfl) (by decide) (fun _ _ _ h => h) (Or.inl ⟨by rfl, ?gy22⟩) (by assumption) ?_
  case gy22 => (intro w' hSw; go_simp; try with_reducible rfl)
  try simp only [AP]
  refine wpAnyL_take (i := 1) (oi := { dst := some 25, op := _, type := _, pos := _, after := _, guard := none }) (v := ?gv23) rfl (by kernel_rfl) (by kernel_rfl) (by kernel_rfl) (by kernel_rfl) (by kernel_rfl) (by decide) (fun _ _ _ h => h) (Or.inl ⟨by rfl, ?gy23⟩) (by assumption) ?_
  case gy23 => (intro w' hSw; go_simp; try with_reducible rfl)
  try simp only [AP]
  refine wpAnyL_take (i := 2) (oi := { dst := some 26, op := _, type := _, pos := _, after := _, guard := none }) (v := ?gv24) rfl (by kernel_rfl) (by kernel_rfl) (by kernel_rfl) (by kernel_rfl) (by kernel_rfl) (by decide) (fun _ _ _ h => h) (Or.inl ⟨by rfl, ?gy24⟩) (by assumption) ?_
  case gy24 => (intro w' hSw; go_simp; try with_reducible rfl)
  try simp only [AP]
  refine wpAnyL_take (i := 3) (oi := { dst := some 27, op := _, type := _, pos := _, after := _, guard := none }) (v := ?gv25) rfl (by kernel_rfl) (by kernel_rfl) (by kernel_rfl) (by kernel_rfl) (by kernel_rfl) (by decide) (fun _ _ _ h => h) (Or.inl ⟨by rfl, ?gy25⟩) (by assumption) ?_
  case gy25 => (intro w' hSw; go_simp; try with_reducible rfl)
  try simp only [AP]
  refine wpAnyL_take (i := 4) (oi := { dst := some 28, op := _, type := _, pos := _, after := _, guard := none }) (v := ?gv26) rfl (by kernel_rfl) (by kernel_rfl) (by kernel_rfl) (by kernel_rfl) (by kernel_rfl) (by decide) (fun _ _ _ h => h) (Or.inl ⟨by rfl, ?gy26⟩) (by assumption) ?_
  case gy26 => (intro w' hSw; go_simp; try with_reducible rfl)
  try simp only [AP]
  refine wpAnyL_take (i := 6) (oi := { dst := some 30, op := _, type := _, pos := _, after := _, guard := none }) (v := ?gv27) rfl (by kernel_rfl) (by kernel_rfl) (by kernel_rfl) (by kernel_rfl) (by kernel_rfl) (by decide) (fun _ _ _ h => h) (Or.inl ⟨by rfl, ?gy27⟩) (by assumption) ?_
  case gy27 => (intro w' hSw; go_simp; try with_reducible rfl)
  try simp only [AP]
  refine wpAnyL_take (i := 7) (oi := { dst := some 31, op := _, type := _, pos := _, after := _, guard := none }) (v := ?gv28) rfl (by kernel_rfl) (by kernel_rfl) (by kernel_rfl) (by kernel_rfl) (by kernel_rfl) (by decide) (fun _ _ _ h => h) (Or.inl ⟨by rfl, ?gy28⟩) (by assumption) ?_
  case gy28 => (intro w' hSw; go_simp; try with_reducible rfl)
  try simp only [AP]
  refine wpAnyL_ready (rs := [5, 8]) (by kernel_rfl) (by simp) ?_
  refine AllReadyL.cons rfl (fun K hK => ?_) (AllReadyL.cons rfl (fun K hK => ?_) AllReadyL.nil)
  go_simp
  (go_at_call 61; ((with_reducible refine (HCL.out _ (by (repeat' (first | assumption | exact below_refl _ | refine bl_alloc ?_ _ | refine Below.setCell ?_ ?_ _ | refine below_draw ?_ | refine below_drewN ?_ _ | refine below_tr ?_ (by assumption))) <;> (first | omega | (simp; done) | (simp; omega)))).mono ?_); rintro e w3 ⟨⟨A3, l3, c3⟩, rfl, hl3, ho3, hle3, hcm3, hb3⟩; dsimp only at hl3; subst hl3; replace ho3 := own_mono ho3 (show wq.heap.size ≤ _ from by first | exact Nat.le_refl _ | (simp; done) | (simp; omega)); dsimp only [Sl.v] at *; obtain ⟨hc3, hf3⟩ := bcell hb3; have hz3 := hb3.size; (try simp [sz_drew, sz_drewN] at hz3); (try simp only [sz_drew, sz_drewN] at hc3 hf3)))
  refine hK.out _ _ (by ((show Kq wq _); (repeat' (first | assumption | exact kq_refl | refine kq_draw ?_ | refine kq_drewN ?_ | refine kq_alloc ?_ | refine kq_set ?_ ?_ | refine kq_step ?_ (by assumption))); (all_goals (first | omega | (simp; omega))))) (fun hS1 => ?_)
  clear hK K
  try simp only [AP]
  refine wpAnyL_ready (rs := [8]) (by kernel_rfl) (by simp) ?_
  refine AllReadyL.cons rfl (fun K hK => ?_) AllReadyL.nil
  go_simp
  refine hK.out _ _ (by ((show Kq wq _); (repeat' (first | assumption | exact kq_refl | refine kq_draw ?_ | refine kq_drewN ?_ | refine kq_alloc ?_ | refine kq_set ?_ ?_ | refine kq_step ?_ (by assumption))); (all_goals (first | omega | (simp; omega))))) (fun hS2 => ?_)
  clear hK K
  try simp only [AP]
  refine wpAnyL_ready (rs := [9]) (by kernel_rfl) (by simp) ?_
  refine AllReadyL.cons rfl (fun K hK => ?_) AllReadyL.nil
  ((first | (refine step_append_at (by rfl) _ _ _ (by rfl) wq.heap.size 9 i0 _ 1 16 Tryz.underlying56 hi hi1 hi2 hi3 rfl (by omega) _ _ _ (by rfl) (own_on ho3 (bl_alloc (below_refl _) _)) ⟨w3.heap.size, 0, none⟩ 1 1 [.string b] (by rfl) rfl (cells_new w3 [.string b] 9) (fun u hu => by simp at hu; subst hu; rfl) (by unfold maxLen; omega) (by omega) (by first | omega | (simp; omega)) ?_) | (refine step_append_at (by rfl) _ _ _ (by rfl) wq.heap.size 9 i0 _ 1 16 Tryz.underlying56 hi hi1 hi2 hi3 rfl (by omega) _ _ _ (by rfl) ho3 ⟨wq.heap.size, 0, none⟩ 1 1 [.string b] (by rfl) rfl (news_on (w := wq.drew) hb3) (fun u hu => by simp at hu; subst hu; rfl) (by unfold maxLen; omega) (by omega) (by first | omega | (simp; omega)) ?_)); intro v4 w4 hown4 hgrow4; obtain ⟨A4, c4, rfl⟩ := own_slice hown4; have hk4 : Below wq.heap.size wq w4 := (bl_grown (by (repeat' (first | assumption | exact below_refl _ | refine bl_alloc ?_ _ | refine Below.setCell ?_ ?_ _ | refine below_draw ?_ | refine below_drewN ?_ _ | refine below_tr ?_ (by assumption))) <;> (first | omega | (simp; done) | (simp; omega))) hgrow4 (fun r hr => (own_ge ho3 r hr).1) (by first | omega | (simp; omega))); have hq4 := kq_of hk4)
  refine hK.out _ _ (by ((show Kq wq _); (repeat' (first | assumption | exact kq_refl | refine kq_draw ?_ | refine kq_drewN ?_ | refine kq_alloc ?_ | refine kq_set ?_ ?_ | refine kq_step ?_ (by assumption))); (all_goals (first | omega | (simp; omega))))) (fun hS3 => ?_)
  clear hK K
  try simp only [AP]
  refine wpAnyL_take (i := 10) (oi := { dst := some 34, op := _, type := _, pos := _, after := _, guard := none }) (v := ?gv29) rfl (by kernel_rfl) (by kernel_rfl) (by kernel_rfl) (by kernel_rfl) (by kernel_rfl) (by decide) (fun _ _ _ h => h) (Or.inl ⟨by rfl, ?gy29⟩) (by assumption) ?_
  case gy29 => (intro w' hSw; go_simp; try with_reducible rfl)
  try simp only [AP]
  refine wpAnyL_take (i := 11) (oi := { dst := some 35, op := _, type := _, pos := _, after := _, guard := none }) (v := ?gv30) rfl (by kernel_rfl) (by kernel_rfl) (by kernel_rfl) (by kernel_rfl) (by kernel_rfl) (by decide) (fun _ _ _ h => h) (Or.inl ⟨by rfl, ?gy30⟩) (by assumption) ?_
  case gy30 => (intro w' hSw; go_simp; try with_reducible rfl)
  try simp only [AP]
  refine wpAnyL_last (by kernel_rfl) rfl (fun K hK => ?_)
  go_simp
  refine hK.out _ _ ?_
  clear hK K
  try simp only [AP]
  refine wpAnyL_done (by kernel_rfl) (NoPanic.normal ?_) _
  rotate_left
  go_simp
  refine hK.out _ _ (by ((show Kq wq _); (repeat' (first | assumption | exact kq_refl | refine kq_draw ?_ | refine kq_drewN ?_ | refine kq_alloc ?_ | refine kq_set ?_ ?_ | refine kq_step ?_ (by assumption))); (all_goals (first | omega | (simp; omega))))) (fun hS1 => ?_)
  clear hK K
  try simp only [AP]
  refine wpAnyL_ready (rs := [5]) (by kernel_rfl) (by simp) ?_
  refine AllReadyL.cons rfl (fun K hK => ?_) AllReadyL.nil
  go_simp
  (go_at_call 61; ((with_reducible refine (HCL.out _ (by (repeat' (first | assumption | exact below_refl _ | refine bl_alloc ?_ _ | refine Below.setCell ?_ ?_ _ | refine below_draw ?_ | refine below_drewN ?_ _ | refine below_tr ?_ (by assumption))) <;> (first | omega | (simp; done) | (simp; omega)))).mono ?_); rintro e w3 ⟨⟨A3, l3, c3⟩, rfl, hl3, ho3, hle3, hcm3, hb3⟩; dsimp only at hl3; subst hl3; replace ho3 := own_mono ho3 (show wq.heap.size ≤ _ from by first | exact Nat.le_refl _ | (simp; done) | (simp; omega)); dsimp only [Sl.v] at *; obtain ⟨hc3, hf3⟩ := bcell hb3; have hz3 := hb3.size; (try simp [sz_drew, sz_drewN] at hz3); (try simp only [sz_drew, sz_drewN] at hc3 hf3)))
  refine hK.out _ _ (by ((show Kq wq _); (repeat' (first | assumption | exact kq_refl | refine kq_draw ?_ | refine kq_drewN ?_ | refine kq_alloc ?_ | refine kq_set ?_ ?_ | refine kq_step ?_ (by assumption))); (all_goals (first | omega | (simp; omega))))) (fun hS2 => ?_)
  clear hK K
  try simp only [AP]
  refine wpAnyL_ready (rs := [9]) (by kernel_rfl) (by simp) ?_
  refine AllReadyL.cons rfl (fun K hK => ?_) AllReadyL.nil
  ((first | (refine step_append_at (by rfl) _ _ _ (by rfl) wq.heap.size 9 i0 _ 1 16 Tryz.underlying56 hi hi1 hi2 hi3 rfl (by omega) _ _ _ (by rfl) (own_on ho3 (bl_alloc (below_refl _) _)) ⟨w3.heap.size, 0, none⟩ 1 1 [.string b] (by rfl) rfl (cells_new w3 [.string b] 9) (fun u hu => by simp at hu; subst hu; rfl) (by unfold maxLen; omega) (by omega) (by first | omega | (simp; omega)) ?_) | (refine step_append_at (by rfl) _ _ _ (by rfl) wq.heap.size 9 i0 _ 1 16 Tryz.underlying56 hi hi1 hi2 hi3 rfl (by omega) _ _ _ (by rfl) ho3 ⟨wq.heap.size, 0, none⟩ 1 1 [.string b] (by rfl) rfl (news_on (w := wq.drew) hb3) (fun u hu => by simp at hu; subst hu; rfl) (by unfold maxLen; omega) (by omega) (by first | omega | (simp; omega)) ?_)); intro v4 w4 hown4 hgrow4; obtain ⟨A4, c4, rfl⟩ := own_slice hown4; have hk4 : Below wq.heap.size wq w4 := (bl_grown (by (repeat' (first | assumption | exact below_refl _ | refine bl_alloc ?_ _ | refine Below.setCell ?_ ?_ _ | refine below_draw ?_ | refine below_drewN ?_ _ | refine below_tr ?_ (by assumption))) <;> (first | omega | (simp; done) | (simp; omega))) hgrow4 (fun r hr => (own_ge ho3 r hr).1) (by first | omega | (simp; omega))); have hq4 := kq_of hk4)
  refine hK.out _ _ (by ((show Kq wq _); (repeat' (first | assumption | exact kq_refl | refine kq_draw ?_ | refine kq_drewN ?_ | refine kq_alloc ?_ | refine kq_set ?_ ?_ | refine kq_step ?_ (by assumption))); (all_goals (first | omega | (simp; omega))))) (fun hS3 => ?_)
  clear hK K
  try simp only [AP]
  refine wpAnyL_take (i := 10) (oi := { dst := some 34, op := _, type := _, pos := _, after := _, guard := none }) (v := ?gv31) rfl (by kernel_rfl) (by kernel_rfl) (by kernel_rfl) (by kernel_rfl) (by kernel_rfl) (by decide) (fun _ _ _ h => h) (Or.inl ⟨by rfl, ?gy31⟩) (by assumption) ?_
  case gy31 => (intro w' hSw; go_simp; try with_reducible rfl)
  try simp only [AP]
  refine wpAnyL_take (i := 11) (oi := { dst := some 35, op := _, type := _, pos := _, after := _, guard := none }) (v := ?gv32) rfl (by kernel_rfl) (by kernel_rfl) (by kernel_rfl) (by kernel_rfl) (by kernel_rfl) (by decide) (fun _ _ _ h => h) (Or.inl ⟨by rfl, ?gy32⟩) (by assumption) ?_
  case gy32 => (intro w' hSw; go_simp; try with_reducible rfl)
  try simp only [AP]
  refine wpAnyL_last (by kernel_rfl) rfl (fun K hK => ?_)
  go_simp
  refine hK.out _ _ ?_
  clear hK K
  try simp only [AP]
  refine wpAnyL_done (by kernel_rfl) (NoPanic.normal ?_) _
  rotate_left
  all_goals
    go_wp2
    go_end0
    have hown := own_snoc (enc := G.sC) (x := b) rfl rfl hown4
    have hG4 : Got (fun b => w.heap.size ≤ b) w4 G.sC 1 ⟨A4, L.back.l ++ [b], c4⟩ := got_own (fun _ => rfl) hown (fun b h1 h2 => by omega)
    have st := nb_step (nb := nb) (below_tr BQ hk4) 22 (.slice A4 (L.back.l.length + 1) c4)
    have K := hN.kept st
    have hG6 := got_new (T := T) (sb := sb) (rb := rb) hG4 hN.lt (Stp.setCell (N := fun b => b = nb) (p := ⟨nb, 22, none⟩) (Stp.refl _ w4) (.inl rfl) (.slice A4 (L.back.l.length + 1) c4))
    exact deed_ok (L' := { L with back := ⟨A4, L.back.l ++ [b], c4⟩ }) HX.out rfl ⟨by have := (HN1.out.blk.below hk4 lnq).set_ 22 (.slice A4 (L.back.l.length + 1) c4); rw [← show (L.back.l ++ [b]).length = L.back.l.length + 1 by simp] at this ⊢; exact this, ⟨K.su, K.gusts, K.rigs, K.rk, K.sites, K.sk, K.items, hG6⟩, K.stp, rfl, rfl⟩
end Go.Proofs.YtmjgljdmjpabdaaGreatDoor.Fi
