/- The parts of the proof, part 25. -/
import Derived.Test.YtmjgljdmjpabdaaGreatDoorP0
import Derived.Test.YtmjgljdmjpabdaaGreatDoorP19
set_option linter.unusedSimpArgs false
set_option linter.unusedVariables false
namespace Go.Proofs.YtmjgljdmjpabdaaGreatDoor.Fi
open Go.RowKit Go.Lib Tx
set_option maxHeartbeats 4000000 in
set_option maxRecDepth 20000 in
theorem d_gust (g : Int) (T : Nat → Prop) (nb sb rb : Nat) (L : LS) (w : World) (hN : Nxt T nb sb rb w L) (hI : Inv L.val) :
    Calls Tryz.prog 282 #[.agg #[.int .i64 g], .pointer (some ⟨nb, 0, none⟩)] w (DeedP (.gust g) T nb sb rb L w) := by
  have x0 := Blk.new w 179 #[.int .i64 g]
  have B0 := bl_alloc (below_refl w) (.cells #[.int .i64 g] 179)
  have b0 := x0.cell 0
  simp only [List.getElem?_toArray, List.getElem?_cons_zero, List.getElem?_cons_succ] at b0
  have hN0 := hN.on B0
  have lnb := hN0.lt
  have lw := x0.lt
  have hfn := hN0.blk.frozen
  have hgl : L.gusts.l.length ≤ 2000 := hI.gl
  cases hwn : wn g (-1) 200
  · have HX := Lib.hid (show deed (.gust g) L.val = .error 7 by unfold deed; dsimp only; rw [if_pos hwn])
    go_enter Tryz.func282, Tryz.ntmps282
    go_wp2_with (first | (go_at_call 70; ((with_reducible refine (f_withinV hwn _).mono ?_); rintro e w' ⟨rfl, rfl⟩)) | (go_at_call 131; ((with_reducible refine (f_must_no _ _).mono ?_); rintro e w' ⟨rfl, rfl⟩)))
    exact ⟨rfl, deed_err HX.out B0⟩
  have HX2 := Lib.hid (show deed (.gust g) L.val = if ¬ L.gusts.l.length < 2000 then .error 10 else if (decide (upN L.val = 0) || goB L.val (L.gusts.l ++ [g])) = false then .error 11 else .ok { L.val with gusts := L.gusts.l ++ [g] } by
    unfold deed; dsimp only; rw [if_neg (by rw [hwn]; simp)]; rfl)
  have c18 : (w.alloc (.cells #[.int .i64 g] 179)).cell? ⟨nb, 18, none⟩ = some (.slice L.gusts.a L.gusts.l.length L.gusts.c) := hN0.cel 18 _ rfl
  by_cases hlt : L.gusts.l.length < 2000
  rotate_left
  · have g1 : decide (L.gusts.l.length < 2000) = false := decide_eq_false hlt
    have g2 : decide ((L.gusts.l.length : Int) < 2000) = false := decide_eq_false (by omega)
    have HX := Lib.hid (show deed (.gust g) L.val = .error 10 by rw [HX2.out, if_pos hlt])
    go_enter Tryz.func282, Tryz.ntmps282
    go_wp2_with (first | (go_at_call 70; ((with_reducible refine (f_withinV hwn _).mono ?_); rintro e w' ⟨rfl, rfl⟩)) | (go_at_call 131; first | ((with_reducible refine (f_must_ok _ _).mono ?_); rintro e w' ⟨rfl, rfl⟩) | ((with_reducible refine (f_must_no _ _).mono ?_); rintro e w' ⟨rfl, rfl⟩)))
    exact ⟨rfl, deed_err HX.out B0⟩
  have g1 : decide (L.gusts.l.length < 2000) = true := decide_eq_true hlt
  have g2 : decide ((L.gusts.l.length : Int) < 2000) = true := decide_eq_true (by omega)
  obtain ⟨i0, hi, hi1, hi2, hi3⟩ := info_Int
  go_enter Tryz.func282, Tryz.ntmps282
  go_upto_region 3 with (first | (go_at_call 70; ((with_reducible refine (f_withinV hwn _).mono ?_); rintro e w' ⟨rfl, rfl⟩)) | (go_at_call 131; ((with_reducible refine (f_must_ok _ _).mono ?_); rintro e w' ⟨rfl, rfl⟩)))
  generalize (w.alloc (.cells #[.int .i64 g] 179)) = w1 at *
  have HCL := Lib.hid (fun w' (h : Below w1.heap.size w1 w') => (show Calls Tryz.prog 59 #[.slice L.gusts.a L.gusts.l.length L.gusts.c] w' (CloP zC 1 3 L.gusts.l w') from c_CloneInt L.gusts w' (by omega) (hN0.on h).gusts.rd))
  have HAL := Lib.hid (fun w' (h : Below w1.heap.size w1 w') => (hN0.on h).aloft hI)
  have HGV := Lib.hid (fun w' (h : Below w1.heap.size w1 w') A c (hR : Rd zC 1 w' A (L.gusts.l ++ [g])) v (hv : goB L.val (L.gusts.l ++ [g]) = v) => (show Calls Tryz.prog 57 #[.pointer (some ⟨nb, 0, none⟩), .slice A (L.gusts.l.length + 1) c] w' fun e w2 => e = .returned (.bool v) ∧ Below w'.heap.size w' w2 by
    have := f_goesV (c := c) hv (hN0.on h).cel (by simp; omega) hR
    simpa using this))
  have HN0 := Lib.hid hN0
  clear hI hN0
  generalize hU : upN L.val = U at *
  refine wp_region_noPanic ?_
  refine wp_region_held_drew (S := (fun w' => (∀ b o, b < w1.heap.size → w'.cell? ⟨b, o, none⟩ = w1.cell? ⟨b, o, none⟩) ∧ (∀ b o, b < w1.heap.size → w'.frozen? ⟨b, o, none⟩ = w1.frozen? ⟨b, o, none⟩) ∧ Below w1.heap.size w1 w')) (by kernel_rfl) (kq_draw kq_refl) (fun hS0 => ?_)
  refine tk 0 16 ?gv1 rfl (by kernel_rfl) (fun _ _ _ h => h) ?gy1 (by assumption) ?_
  case gy1 => (intro w' hSw; go_simp; try with_reducible rfl)
  try simp only [AP]
  refine tk 1 17 ?gv2 rfl (by kernel_rfl) (fun _ _ _ h => h) ?gy2 (by assumption) ?_
  case gy2 => (intro w' hSw; go_simp; try with_reducible rfl)
  try simp only [AP]
  refine tk 2 18 ?gv3 rfl (by kernel_rfl) (fun _ _ _ h => h) ?gy3 (by assumption) ?_
  case gy3 => (intro w' hSw; go_simp; try with_reducible rfl)
  try simp only [AP]
  refine tk 3 19 ?gv4 rfl (by kernel_rfl) (fun _ _ _ h => h) ?gy4 (by assumption) ?_
  case gy4 => (intro w' hSw; go_simp; try with_reducible rfl)
  try simp only [AP]
  refine tk 5 21 ?gv5 rfl (by kernel_rfl) (fun _ _ _ h => h) ?gy5 (by assumption) ?_
  case gy5 => (intro w' hSw; go_simp; try with_reducible rfl)
  try simp only [AP]
  refine tk 6 22 ?gv6 rfl (by kernel_rfl) (fun _ _ _ h => h) ?gy6 (by assumption) ?_
  case gy6 => (intro w' hSw; go_simp; try with_reducible rfl)
  try simp only [AP]
  refine wpAnyH_ready (rs := [4, 7]) (by kernel_rfl) (by simp) ?_
  refine AllReadyH.cons rfl (fun K hK => ?_) (AllReadyH.cons rfl (fun K hK => ?_) AllReadyH.nil)
  go_simp
  (go_at_call 59; ((with_reducible refine (HCL.out _ (by (repeat' (first | assumption | exact below_refl _ | refine bl_alloc ?_ _ | refine Below.setCell ?_ ?_ _ | refine below_draw ?_ | refine below_drewN ?_ _ | refine below_tr ?_ (by assumption))) <;> (first | omega | (simp; done) | (simp; omega)))).mono ?_); rintro e w3 ⟨⟨A3, l3, c3⟩, rfl, hl3, ho3, hle3, hcm3, hb3⟩; dsimp only at hl3; subst hl3; replace ho3 := own_mono ho3 (show w1.heap.size ≤ _ from by first | exact Nat.le_refl _ | (simp; done) | (simp; omega)); dsimp only [Sl.v] at *; obtain ⟨hc3, hf3⟩ := bcell hb3; have hz3 := hb3.size; (try simp [sz_drew, sz_drewN] at hz3); (try simp only [sz_drew, sz_drewN] at hc3 hf3)))
  refine hK.out _ _ (by ((show Kq w1 _); (repeat' (first | assumption | exact kq_refl | refine kq_draw ?_ | refine kq_drewN ?_ | refine kq_alloc ?_ | refine kq_set ?_ ?_ | refine kq_step ?_ (by assumption))); (all_goals (first | omega | (simp; omega))))) (fun hS1 => ?_)
  clear hK K
  try simp only [AP]
  refine wpAnyH_ready (rs := [7]) (by kernel_rfl) (by simp) ?_
  refine AllReadyH.cons rfl (fun K hK => ?_) AllReadyH.nil
  go_simp
  refine hK.out _ _ (by ((show Kq w1 _); (repeat' (first | assumption | exact kq_refl | refine kq_draw ?_ | refine kq_drewN ?_ | refine kq_alloc ?_ | refine kq_set ?_ ?_ | refine kq_step ?_ (by assumption))); (all_goals (first | omega | (simp; omega))))) (fun hS2 => ?_)
  clear hK K
  try simp only [AP]
  refine wpAnyH_ready (rs := [8]) (by kernel_rfl) (by simp) ?_
  refine AllReadyH.cons rfl (fun K hK => ?_) AllReadyH.nil
  ((first | (refine step_append_at (by rfl) _ _ _ (by rfl) w1.heap.size 3 i0 _ 1 8 Tryz.underlying43 hi hi1 hi2 hi3 rfl (by omega) _ _ _ (by rfl) (own_on ho3 (bl_alloc (below_refl _) _)) ⟨w3.heap.size, 0, none⟩ 1 1 [.int .i64 g] (by rfl) rfl (cells_new w3 [.int .i64 g] 3) (fun u hu => by simp at hu; subst hu; rfl) (by unfold maxLen; omega) (by omega) (by first | omega | (simp; omega)) ?_) | (refine step_append_at (by rfl) _ _ _ (by rfl) w1.heap.size 3 i0 _ 1 8 Tryz.underlying43 hi hi1 hi2 hi3 rfl (by omega) _ _ _ (by rfl) ho3 ⟨w1.heap.size, 0, none⟩ 1 1 [.int .i64 g] (by rfl) rfl (news_on (w := w1.drew) hb3) (fun u hu => by simp at hu; subst hu; rfl) (by unfold maxLen; omega) (by omega) (by first | omega | (simp; omega)) ?_)); intro v4 w4 hown4 hgrow4; obtain ⟨A4, c4, rfl⟩ := own_slice hown4; have hk4 : Below w1.heap.size w1 w4 := (bl_grown (by (repeat' (first | assumption | exact below_refl _ | refine bl_alloc ?_ _ | refine Below.setCell ?_ ?_ _ | refine below_draw ?_ | refine below_drewN ?_ _ | refine below_tr ?_ (by assumption))) <;> (first | omega | (simp; done) | (simp; omega))) hgrow4 (fun r hr => (own_ge ho3 r hr).1) (by first | omega | (simp; omega))); have hq4 := kq_of hk4)
  refine hK.out _ _ (by ((show Kq w1 _); (repeat' (first | assumption | exact kq_refl | refine kq_draw ?_ | refine kq_drewN ?_ | refine kq_alloc ?_ | refine kq_set ?_ ?_ | refine kq_step ?_ (by assumption))); (all_goals (first | omega | (simp; omega))))) (fun hS3 => ?_)
  clear hK K
  try simp only [AP]
  refine tk 9 4 ?gv7 rfl (by kernel_rfl) (fun _ _ _ h => h) ?gy7 (by assumption) ?_
  case gy7 => (intro w' hSw; go_simp; try with_reducible rfl)
  try simp only [AP]
  refine wpAnyH_done (by kernel_rfl) (NoPanic.normal ?_) _
  rotate_left
  go_simp
  refine hK.out _ _ (by ((show Kq w1 _); (repeat' (first | assumption | exact kq_refl | refine kq_draw ?_ | refine kq_drewN ?_ | refine kq_alloc ?_ | refine kq_set ?_ ?_ | refine kq_step ?_ (by assumption))); (all_goals (first | omega | (simp; omega))))) (fun hS1 => ?_)
  clear hK K
  try simp only [AP]
  refine wpAnyH_ready (rs := [4]) (by kernel_rfl) (by simp) ?_
  refine AllReadyH.cons rfl (fun K hK => ?_) AllReadyH.nil
  go_simp
  (go_at_call 59; ((with_reducible refine (HCL.out _ (by (repeat' (first | assumption | exact below_refl _ | refine bl_alloc ?_ _ | refine Below.setCell ?_ ?_ _ | refine below_draw ?_ | refine below_drewN ?_ _ | refine below_tr ?_ (by assumption))) <;> (first | omega | (simp; done) | (simp; omega)))).mono ?_); rintro e w3 ⟨⟨A3, l3, c3⟩, rfl, hl3, ho3, hle3, hcm3, hb3⟩; dsimp only at hl3; subst hl3; replace ho3 := own_mono ho3 (show w1.heap.size ≤ _ from by first | exact Nat.le_refl _ | (simp; done) | (simp; omega)); dsimp only [Sl.v] at *; obtain ⟨hc3, hf3⟩ := bcell hb3; have hz3 := hb3.size; (try simp [sz_drew, sz_drewN] at hz3); (try simp only [sz_drew, sz_drewN] at hc3 hf3)))
  refine hK.out _ _ (by ((show Kq w1 _); (repeat' (first | assumption | exact kq_refl | refine kq_draw ?_ | refine kq_drewN ?_ | refine kq_alloc ?_ | refine kq_set ?_ ?_ | refine kq_step ?_ (by assumption))); (all_goals (first | omega | (simp; omega))))) (fun hS2 => ?_)
  clear hK K
  try simp only [AP]
  refine wpAnyH_ready (rs := [8]) (by kernel_rfl) (by simp) ?_
  refine AllReadyH.cons rfl (fun K hK => ?_) AllReadyH.nil
  ((first | (refine step_append_at (by rfl) _ _ _ (by rfl) w1.heap.size 3 i0 _ 1 8 Tryz.underlying43 hi hi1 hi2 hi3 rfl (by omega) _ _ _ (by rfl) (own_on ho3 (bl_alloc (below_refl _) _)) ⟨w3.heap.size, 0, none⟩ 1 1 [.int .i64 g] (by rfl) rfl (cells_new w3 [.int .i64 g] 3) (fun u hu => by simp at hu; subst hu; rfl) (by unfold maxLen; omega) (by omega) (by first | omega | (simp; omega)) ?_) | (refine step_append_at (by rfl) _ _ _ (by rfl) w1.heap.size 3 i0 _ 1 8 Tryz.underlying43 hi hi1 hi2 hi3 rfl (by omega) _ _ _ (by rfl) ho3 ⟨w1.heap.size, 0, none⟩ 1 1 [.int .i64 g] (by rfl) rfl (news_on (w := w1.drew) hb3) (fun u hu => by simp at hu; subst hu; rfl) (by unfold maxLen; omega) (by omega) (by first | omega | (simp; omega)) ?_)); intro v4 w4 hown4 hgrow4; obtain ⟨A4, c4, rfl⟩ := own_slice hown4; have hk4 : Below w1.heap.size w1 w4 := (bl_grown (by (repeat' (first | assumption | exact below_refl _ | refine bl_alloc ?_ _ | refine Below.setCell ?_ ?_ _ | refine below_draw ?_ | refine below_drewN ?_ _ | refine below_tr ?_ (by assumption))) <;> (first | omega | (simp; done) | (simp; omega))) hgrow4 (fun r hr => (own_ge ho3 r hr).1) (by first | omega | (simp; omega))); have hq4 := kq_of hk4)
  refine hK.out _ _ (by ((show Kq w1 _); (repeat' (first | assumption | exact kq_refl | refine kq_draw ?_ | refine kq_drewN ?_ | refine kq_alloc ?_ | refine kq_set ?_ ?_ | refine kq_step ?_ (by assumption))); (all_goals (first | omega | (simp; omega))))) (fun hS3 => ?_)
  clear hK K
  try simp only [AP]
  refine tk 9 4 ?gv8 rfl (by kernel_rfl) (fun _ _ _ h => h) ?gy8 (by assumption) ?_
  case gy8 => (intro w' hSw; go_simp; try with_reducible rfl)
  try simp only [AP]
  refine wpAnyH_done (by kernel_rfl) (NoPanic.normal ?_) _
  rotate_left
  all_goals
    have hown := own_snoc (enc := zC) (x := g) rfl rfl hown4
    have hR4 : Rd zC 1 w4 A4 (L.gusts.l ++ [g]) := own_rd' (enc := zC) (sz := 1) (fun _ => rfl) hown
    have hG4 : Got (fun b => w.heap.size ≤ b) w4 zC 1 ⟨A4, L.gusts.l ++ [g], c4⟩ := got_own (fun _ => rfl) hown (fun b h1 h2 => by omega)
    have B4 := hk4
    obtain ⟨hcx, hfx⟩ := bcell hk4
    have lz4 : w1.heap.size ≤ w4.heap.size := hk4.size
    have ln4 : nb < w4.heap.size := by omega
    by_cases hz : U = 0
    · have g3 : (U == 0) = true := by simpa using hz
      have HX := Lib.hid (show deed (.gust g) L.val = .ok { L.val with gusts := L.gusts.l ++ [g] } by rw [HX2.out, if_neg (by omega), if_neg (by rw [decide_eq_true hz]; simp)])
      clear hz hU
      go_upto_region 5 with (first | (go_at_call 236; ((with_reducible refine (HAL.out _ (by (repeat' (first | assumption | exact below_refl _ | refine bl_alloc ?_ _ | refine Below.setCell ?_ ?_ _ | refine below_draw ?_ | refine below_drewN ?_ _ | refine below_tr ?_ (by assumption))) <;> (first | omega | (simp; done) | (simp; omega)))).mono ?_); rintro e w5 ⟨rfl, hb5⟩; obtain ⟨hc5, hf5⟩ := bcell hb5; have hz5 := hb5.size; (try simp [sz_drew, sz_drewN] at hz5); (try simp only [sz_drew, sz_drewN] at hc5 hf5))) | (go_at_call 131; ((with_reducible refine (f_must_ok _ _).mono ?_); rintro e w' ⟨rfl, rfl⟩)))
      have B5 : Below w1.heap.size w1 w5 := by (repeat' (first | assumption | exact below_refl _ | refine bl_alloc ?_ _ | refine Below.setCell ?_ ?_ _ | refine below_draw ?_ | refine below_drewN ?_ _ | refine below_tr ?_ (by assumption))) <;> (first | omega | (simp; done) | (simp; omega))
      obtain ⟨hcy, hfy⟩ := bcell B5
      have q18 := (hcy nb 18 lnb).trans c18
      have qf := (hfy nb 18 lnb).trans (hfn 18)
      go_wp2
      go_end0
      have st := nb_step (nb := nb) (below_tr B0 B5) 18 (.slice A4 (L.gusts.l.length + 1) c4)
      have K := hN.kept st
      have hG5 : Got (fun b => w.heap.size ≤ b) w5 zC 1 ⟨A4, L.gusts.l ++ [g], c4⟩ := hG4.on hb5
      have hG6 := got_new (T := T) (sb := sb) (rb := rb) hG5 hN.lt (Stp.setCell (N := fun b => b = nb) (p := ⟨nb, 18, none⟩) (Stp.refl _ w5) (.inl rfl) (.slice A4 (L.gusts.l.length + 1) c4))
      exact deed_ok (L' := { L with gusts := ⟨A4, L.gusts.l ++ [g], c4⟩ }) HX.out rfl ⟨by have := (HN0.out.blk.below B5 lnb).set_ 18 (.slice A4 (L.gusts.l.length + 1) c4); rw [← show (L.gusts.l ++ [g]).length = L.gusts.l.length + 1 by simp] at this ⊢; exact this, ⟨K.su, hG6, K.rigs, K.rk, K.sites, K.sk, K.items, K.back⟩, K.stp, rfl, rfl⟩
    · have g3 : (U == 0) = false := by simpa using hz
      have HU := Lib.hid hz
      clear hz hU
      cases hg : goB L.val (L.gusts.l ++ [g])
      · have HX := Lib.hid (show deed (.gust g) L.val = .error 11 by rw [HX2.out, if_neg (by omega), if_pos (by rw [decide_eq_false HU.out, hg]; rfl)])
        have HGO := Lib.hid (fun w' (h : Below w4.heap.size w4 w') => HGV.out w' (below_tr hk4 h) A4 c4 (hR4.on h) _ hg)
        go_wp2_with (first | (go_at_call 236; ((with_reducible refine (HAL.out _ (by (repeat' (first | assumption | exact below_refl _ | refine bl_alloc ?_ _ | refine Below.setCell ?_ ?_ _ | refine below_draw ?_ | refine below_drewN ?_ _ | refine below_tr ?_ (by assumption))) <;> (first | omega | (simp; done) | (simp; omega)))).mono ?_); rintro e w5 ⟨rfl, hb5⟩; obtain ⟨hc5, hf5⟩ := bcell hb5; have hz5 := hb5.size; (try simp [sz_drew, sz_drewN] at hz5); (try simp only [sz_drew, sz_drewN] at hc5 hf5))) | (go_at_call 57; ((with_reducible refine (HGO.out _ (by (repeat' (first | assumption | exact below_refl _ | refine bl_alloc ?_ _ | refine Below.setCell ?_ ?_ _ | refine below_draw ?_ | refine below_drewN ?_ _ | refine below_tr ?_ (by assumption))) <;> (first | omega | (simp; done) | (simp; omega)))).mono ?_); rintro e w6 ⟨rfl, hb6⟩; obtain ⟨hc6, hf6⟩ := bcell hb6; have hz6 := hb6.size; (try simp [sz_drew, sz_drewN] at hz6); (try simp only [sz_drew, sz_drewN] at hc6 hf6))) | (go_at_call 131; ((with_reducible refine (f_must_no _ _).mono ?_); rintro e w' ⟨rfl, rfl⟩)))
        exact ⟨rfl, deed_err HX.out (by (repeat' (first | assumption | exact below_refl _ | refine bl_alloc ?_ _ | refine Below.setCell ?_ ?_ _ | refine below_draw ?_ | refine below_drewN ?_ _ | refine below_tr ?_ (by assumption))) <;> (first | omega | (simp; done) | (simp; omega)))⟩
      · have HX := Lib.hid (show deed (.gust g) L.val = .ok { L.val with gusts := L.gusts.l ++ [g] } by rw [HX2.out, if_neg (by omega), if_neg (by rw [decide_eq_false HU.out, hg]; simp)])
        have HGO := Lib.hid (fun w' (h : Below w4.heap.size w4 w') => HGV.out w' (below_tr hk4 h) A4 c4 (hR4.on h) _ hg)
        go_upto_region 5 with (first | (go_at_call 236; ((with_reducible refine (HAL.out _ (by (repeat' (first | assumption | exact below_refl _ | refine bl_alloc ?_ _ | refine Below.setCell ?_ ?_ _ | refine below_draw ?_ | refine below_drewN ?_ _ | refine below_tr ?_ (by assumption))) <;> (first | omega | (simp; done) | (simp; omega)))).mono ?_); rintro e w5 ⟨rfl, hb5⟩; obtain ⟨hc5, hf5⟩ := bcell hb5; have hz5 := hb5.size; (try simp [sz_drew, sz_drewN] at hz5); (try simp only [sz_drew, sz_drewN] at hc5 hf5))) | (go_at_call 57; ((with_reducible refine (HGO.out _ (by (repeat' (first | assumption | exact below_refl _ | refine bl_alloc ?_ _ | refine Below.setCell ?_ ?_ _ | refine below_draw ?_ | refine below_drewN ?_ _ | refine below_tr ?_ (by assumption))) <;> (first | omega | (simp; done) | (simp; omega)))).mono ?_); rintro e w6 ⟨rfl, hb6⟩; obtain ⟨hc6, hf6⟩ := bcell hb6; have hz6 := hb6.size; (try simp [sz_drew, sz_drewN] at hz6); (try simp only [sz_drew, sz_drewN] at hc6 hf6))) | (go_at_call 131; ((with_reducible refine (f_must_ok _ _).mono ?_); rintro e w' ⟨rfl, rfl⟩)))
        have B6 : Below w1.heap.size w1 w6 := by (repeat' (first | assumption | exact below_refl _ | refine bl_alloc ?_ _ | refine Below.setCell ?_ ?_ _ | refine below_draw ?_ | refine below_drewN ?_ _ | refine below_tr ?_ (by assumption))) <;> (first | omega | (simp; done) | (simp; omega))
        obtain ⟨hcy, hfy⟩ := bcell B6
        have q18 := (hcy nb 18 lnb).trans c18
        have qf := (hfy nb 18 lnb).trans (hfn 18)
        go_wp2
        go_end0
        have st := nb_step (nb := nb) (below_tr B0 B6) 18 (.slice A4 (L.gusts.l.length + 1) c4)
        have K := hN.kept st
        have hG5 : Got (fun b => w.heap.size ≤ b) w6 zC 1 ⟨A4, L.gusts.l ++ [g], c4⟩ := (hG4.on hb5).on hb6
        have hG6 := got_new (T := T) (sb := sb) (rb := rb) hG5 hN.lt (Stp.setCell (N := fun b => b = nb) (p := ⟨nb, 18, none⟩) (Stp.refl _ w6) (.inl rfl) (.slice A4 (L.gusts.l.length + 1) c4))
        exact deed_ok (L' := { L with gusts := ⟨A4, L.gusts.l ++ [g], c4⟩ }) HX.out rfl ⟨by have := (HN0.out.blk.below B6 lnb).set_ 18 (.slice A4 (L.gusts.l.length + 1) c4); rw [← show (L.gusts.l ++ [g]).length = L.gusts.l.length + 1 by simp] at this ⊢; exact this, ⟨K.su, hG6, K.rigs, K.rk, K.sites, K.sk, K.items, K.back⟩, K.stp, rfl, rfl⟩
end Go.Proofs.YtmjgljdmjpabdaaGreatDoor.Fi
