/- Lean: Raised by the reference. -/
import Derived.Test.YtohbejdfaecghaaLpb
import Derived.Test.YtohbejdfaecghaaLva
import Derived.Test.YtohbejdfaecghaaLtd
import Derived.Test.YtohbejdfaecghaaLnh
import Derived.StillTailTactics
set_option linter.unusedSimpArgs false
set_option linter.unusedVariables false
namespace Go.Proofs.Ytohbejdfaecghaa
open Go.RowKit

set_option maxHeartbeats 400000 in
theorem r_Floor (n d : Int) (w : World) (hd : 0 < d) (h1 : -400000000000000000 ≤ n) (h2 : n ≤ 400000000000000000) (h3 : d ≤ 1000000000000) :
    Calls Try.prog 88 #[.int .i64 n, .int .i64 d] w fun e w' => e = .returned (.int .i64 (n / d)) ∧ w = w' := by
  have hf := tdiv_floor (n := n) hd
  have hm := Int.tdiv_mul_add_tmod n d
  have l1 := Int.lt_tmod_of_pos n hd
  have l2 := Int.tmod_lt_of_pos n hd
  obtain ⟨t0, t1⟩ := tdiv_bd (n := n) hd h1 h2
  have e1 : IntKind.i64.wrap (n.tdiv d) = n.tdiv d := fits_wrap ⟨by omega, by omega⟩
  have hd0 : ¬ d = 0 := by omega
  have p0 : -500000000000000000 ≤ n.tdiv d * d := by omega
  have p1 : n.tdiv d * d ≤ 500000000000000000 := by omega
  by_cases hc : n < n.tdiv d * d
  · have u0 : decide (n < n.tdiv d * d) = true := by simpa using hc
    rw [if_pos (by omega)] at hf
    have HF := Lib.hid hf
    clear hf hm l1 l2
    go_enter Try.func88, Try.ntmps88
    go_wp2
    go_ret
    exact ⟨ret_int HF.out, rfl⟩
  · have u0 : decide (n < n.tdiv d * d) = false := by simpa using hc
    rw [if_neg (by omega)] at hf
    have HF := Lib.hid hf
    clear hf hm l1 l2
    go_enter Try.func88, Try.ntmps88
    go_wp2
    go_ret
    exact ⟨ret_int HF.out, rfl⟩
set_option maxHeartbeats 2000000 in
set_option maxRecDepth 20000 in
theorem r_Raised (A : Option Addr) (l : List Pt) (c : Nat) (a b d : Int) (w : World) (hn : l.length ≤ 100000) (hR : Rd Pt.cs 2 w A l) :
    Calls Try.prog 56 #[.slice A l.length c, lineV a b d] w fun e w' => ∃ v, e = .returned (.tuple #[v, .int .i64 (rsdL l (a, b, d)).2]) ∧ w'.ownsRow w.heap.size 28 2 v (rsdL l (a, b, d)).1.length (fl Pt.cs (rsdL l (a, b, d)).1) ∧ Below w.heap.size w w' := by
  have HV := Lib.hid (fun W (h : Below w.heap.size w W) => r_validPoints A l c W hn (hR.on h))
  cases hp : vldP l
  · have HB := Lib.hid (show rsdL l (a, b, d) = ([], 1) by simp [rsdL, hp])
    clear hR
    go_enter Try.func56, Try.ntmps56
    go_wp2_with (go_at_call 31; ((with_reducible refine (calls_bool hp (HV.out _ (below_alloc _ _))).mono ?_); rintro e w1 ⟨rfl, hb1⟩; obtain ⟨hc1, hf1⟩ := bcell hb1; have hz1 := hb1.size; (try simp [sz_drew, sz_drewN] at hz1); (try simp only [sz_drew, sz_drewN] at hc1 hf1); have z1_0 : w.heap.size < w1.heap.size := (by omega)))
    go_ret2
    exact ⟨_, by rw [HB.out]; rfl, by rw [HB.out]; exact World.ownsRow_nil _ _ _ _, by (repeat' (first | assumption | exact below_refl _ | refine bl_alloc ?_ _ | refine Below.setCell ?_ ?_ _ | refine below_draw ?_ | refine below_drewN ?_ _ | refine below_tr ?_ (by assumption))) <;> (first | omega | (simp; done) | (simp; omega))⟩
  · cases hv : vldL a b d
    · have HB := Lib.hid (show rsdL l (a, b, d) = ([], 1) by simp [rsdL, hv])
      clear hR
      go_enter Try.func56, Try.ntmps56
      go_wp2_with (first
        | (go_at_call 31; ((with_reducible refine (calls_bool hp (HV.out _ (below_alloc _ _))).mono ?_); rintro e w1 ⟨rfl, hb1⟩; obtain ⟨hc1, hf1⟩ := bcell hb1; have hz1 := hb1.size; (try simp [sz_drew, sz_drewN] at hz1); (try simp only [sz_drew, sz_drewN] at hc1 hf1); have z1_0 : w.heap.size < w1.heap.size := (by omega)))
        | (go_at_call 24; ((with_reducible refine (calls_bool hv (r_validLine a b d _)).mono ?_); rintro e w2 ⟨rfl, hb2⟩; obtain ⟨hc2, hf2⟩ := bcell hb2; have hz2 := hb2.size; (try simp [sz_drew, sz_drewN] at hz2); (try simp only [sz_drew, sz_drewN] at hc2 hf2); have z2_0 : w.heap.size < w2.heap.size := (by omega))))
      go_ret2
      exact ⟨_, by rw [HB.out]; rfl, by rw [HB.out]; exact World.ownsRow_nil _ _ _ _, by (repeat' (first | assumption | exact below_refl _ | refine bl_alloc ?_ _ | refine Below.setCell ?_ ?_ _ | refine below_draw ?_ | refine below_drewN ?_ _ | refine below_tr ?_ (by assumption))) <;> (first | omega | (simp; done) | (simp; omega))⟩
    · obtain ⟨h1, h2⟩ := vld_len hp
      have hs := vld_sp hp
      have hd := vld_pos hv
      obtain ⟨a0, a1, b0, b1, d0, d1⟩ := lb_of (vld_in hv)
      obtain ⟨i0, hi, hi1, hi2, hi3⟩ := info_point
      have HNO := Lib.hid (fun (k : Nat) (p : Pt) h => rsd_no (x := (a, b, d)) (k := k) (p := p) hp hv h)
      have HYES := Lib.hid (rsd_yes (x := (a, b, d)) hp hv)
      have HPL := Lib.hid (Blk.new w 30 #[.int .i64 a, .int .i64 b, .int .i64 d])
      go_enter Try.func56, Try.ntmps56
      go_wp2_with (first
        | ((go_at_call 31; ((with_reducible refine (calls_bool hp (HV.out _ (below_alloc _ _))).mono ?_); rintro e w1 ⟨rfl, hb1⟩; obtain ⟨hc1, hf1⟩ := bcell hb1; have hz1 := hb1.size; (try simp [sz_drew, sz_drewN] at hz1); (try simp only [sz_drew, sz_drewN] at hc1 hf1); have z1_0 : w.heap.size < w1.heap.size := (by omega))); have BL1 := Lib.hid (HPL.out.below hb1 (by simp)); have B1 : Below w.heap.size w w1 := (by (repeat' (first | assumption | exact below_refl _ | refine bl_alloc ?_ _ | refine Below.setCell ?_ ?_ _ | refine below_draw ?_ | refine below_drewN ?_ _ | refine below_tr ?_ (by assumption))) <;> (first | omega | (simp; done) | (simp; omega))))
        | ((go_at_call 24; ((with_reducible refine (calls_bool hv (r_validLine a b d _)).mono ?_); rintro e w2 ⟨rfl, hb2⟩; obtain ⟨hc2, hf2⟩ := bcell hb2; have hz2 := hb2.size; (try simp [sz_drew, sz_drewN] at hz2); (try simp only [sz_drew, sz_drewN] at hc2 hf2); have z2_0 : w.heap.size < w2.heap.size := (by omega))); have BL2 := Lib.hid (BL1.out.below hb2 BL1.out.lt); have B2 : Below w.heap.size w w2 := (by (repeat' (first | assumption | exact below_refl _ | refine bl_alloc ?_ _ | refine Below.setCell ?_ ?_ _ | refine below_draw ?_ | refine below_drewN ?_ _ | refine below_tr ?_ (by assumption))) <;> (first | omega | (simp; done) | (simp; omega)))))
      go_loopw [6, 7] (fun o i wr => ∃ k : Nat, k ≤ l.length ∧ i = .int .i64 k ∧ Below w.heap.size w wr ∧ Hid (Blk wr w.heap.size 30 #[.int .i64 a, .int .i64 b, .int .i64 d]) ∧ Hid (((l.take k).map (upPt (a, b, d))).all sndP = true) ∧ wr.ownsRow (w.heap.size + 1) 28 2 o k (fl Pt.cs ((l.take k).map (upPt (a, b, d))))) (fun _ i _ => l.length - (intOf i).toNat)
      case atStart => exact ⟨0, by omega, rfl, B2, BL2, Lib.hid (by simp), by simpa [fl] using World.ownsRow_nil w2 _ _ _⟩
      case round =>
        obtain ⟨k, hk, rfl, hbw, BL, HI, hown⟩ := hrel
        obtain ⟨ad, cp, rfl⟩ := own_slice hown
        by_cases hlt : k < l.length
        · have k0 : (0 : Int) ≤ (k : Int) := Int.natCast_nonneg _
          have k1 : (k : Int) < (l.length : Int) := by omega
          obtain ⟨p, ab, off, hx, rfl, hab, c0, c1⟩ := rdP (hR.on hbw) hlt
          obtain ⟨s0, s1, s2, s3⟩ := hs p (List.mem_of_getElem? hx)
          have mb := mul_bd (a := b) (b := p.h) (A := 1000000000000) (B := 200000) b0 b1 (by omega) s1
          obtain ⟨m0, m1⟩ := mb
          have HFl := Lib.hid (fun W => (r_Floor (a + b * p.h) d W hd (by omega) (by omega) d1).mono fun _ _ ⟨he, hw⟩ => And.intro he hw.symm)
          have f0 : -400000000000000000 ≤ (a + b * p.h) / d ∧ (a + b * p.h) / d ≤ 400000000000000000 := by
            have t := tdiv_bd (n := a + b * p.h) (B := 300000000000000000) hd (by omega) (by omega)
            have u := tdiv_floor (n := a + b * p.h) hd
            split at u <;> omega
          obtain ⟨f0, f1⟩ := f0
          have HU := Lib.hid (show upPt (a, b, d) p = ⟨p.h, p.x + (a + b * p.h) / d⟩ from rfl)
          generalize (a + b * p.h) / d = q at *
          have w1' : IntKind.i64.wrap (b * p.h) = b * p.h := fits_wrap ⟨by omega, by omega⟩
          have w2' : IntKind.i64.wrap (a + b * p.h) = a + b * p.h := fits_wrap ⟨by omega, by omega⟩
          have w3' : IntKind.i64.wrap (p.x + q) = p.x + q := fits_wrap ⟨by omega, by omega⟩
          have HX := Lib.hid hx
          have hgb := BL.out.lt
          have hne : w.heap.size ≠ wr.heap.size := by omega
          have hd0 : ¬ d = 0 := by omega
          clear hx hs
          cases hsd : sndP ⟨p.h, p.x + q⟩
          · have HS := Lib.hid (fun W => calls_bool hsd (r_sound ⟨p.h, p.x + q⟩ W))
            have HN := Lib.hid (HNO.out k p HX.out (by rw [HU.out]; exact hsd))
            clear hsd
            go_wp2_with (fail)
            refine wp_world ?_
            intro W1 hW1
            have bW1 : Below w.heap.size w W1 := by rw [hW1]; (repeat' (first | assumption | exact below_refl _ | refine bl_alloc ?_ _ | refine Below.setCell ?_ ?_ _ | refine below_draw ?_ | refine below_drewN ?_ _ | refine below_tr ?_ (by assumption))) <;> (first | omega | (simp; done) | (simp; omega))
            have BL1' : Blk W1 w.heap.size 30 #[.int .i64 a, .int .i64 b, .int .i64 d] := by rw [hW1]; exact BL.out.alloc _
            have BP1 : Blk W1 wr.heap.size 28 #[.int .i64 p.h, .int .i64 p.x] := by rw [hW1]; exact Blk.new _ _ _
            have hownw := hown
            have hown1 : W1.ownsRow (w.heap.size + 1) 28 2 (.slice ad k cp) k (fl Pt.cs ((l.take k).map (upPt (a, b, d)))) := by rw [hW1]; exact hown.alloc _
            have gz1 : wr.heap.size < W1.heap.size := by rw [hW1]; simp
            clear hW1
            have BL1'' := Lib.hid BL1'
            obtain ⟨x0, x1, x2, y0, y1, y2⟩ := blk3 BL1'
            obtain ⟨z0, z1, v0, v1⟩ := blk2 BP1
            have gz0 : w.heap.size < W1.heap.size := by omega
            have hne2 : wr.heap.size ≠ w.heap.size := by omega
            clear BL1' BP1 c0 c1
            refine wp_region_still_tail 15 (by kernel_rfl) (by kernel_rfl) ?_
            change wpStill _ _ W1.drew _ _ _
            simp only [List.take_succ_cons, List.take_zero, List.drop_succ_cons, List.drop_zero]
            repeat still_step
            refine wpStill_step (fun K hK => ?_)
            go_simp
            with_reducible refine ⟨_, HFl.out _, hK _ ?_⟩
            clear hK K
            repeat still_step
            refine wpStill_nil ?_
            change wpList _ _ _ _ _ W1.drew
            clear w1' w2' w3'
            go_wp2_with (go_at_call 62; ((with_reducible refine (HS.out _).mono ?_); rintro e w4 ⟨rfl, hb4⟩; obtain ⟨hc4, hf4⟩ := bcell hb4; have hz4 := hb4.size; (try simp [sz_drew, sz_drewN] at hz4); (try simp only [sz_drew, sz_drewN] at hc4 hf4); have z4_0 : w.heap.size < w4.heap.size := (by omega)))
            go_ret2
            exact ⟨_, by rw [HN.out]; rfl, by rw [HN.out]; exact World.ownsRow_nil _ _ _ _, by (repeat' (first | assumption | exact below_refl _ | refine bl_alloc ?_ _ | refine Below.setCell ?_ ?_ _ | refine below_draw ?_ | refine below_drewN ?_ _ | refine below_tr ?_ (by assumption))) <;> (first | omega | (simp; done) | (simp; omega))⟩
          · have HS := Lib.hid (fun W => calls_bool hsd (r_sound ⟨p.h, p.x + q⟩ W))
            have HA := Lib.hid (rsd_all HI.out HX.out (by rw [HU.out]; exact hsd))
            have HST := Lib.hid (rsd_step (x := (a, b, d)) HX.out)
            clear hsd
            go_wp2_with (fail)
            refine wp_world ?_
            intro W1 hW1
            have bW1 : Below w.heap.size w W1 := by rw [hW1]; (repeat' (first | assumption | exact below_refl _ | refine bl_alloc ?_ _ | refine Below.setCell ?_ ?_ _ | refine below_draw ?_ | refine below_drewN ?_ _ | refine below_tr ?_ (by assumption))) <;> (first | omega | (simp; done) | (simp; omega))
            have BL1' : Blk W1 w.heap.size 30 #[.int .i64 a, .int .i64 b, .int .i64 d] := by rw [hW1]; exact BL.out.alloc _
            have BP1 : Blk W1 wr.heap.size 28 #[.int .i64 p.h, .int .i64 p.x] := by rw [hW1]; exact Blk.new _ _ _
            have hownw := hown
            have hown1 : W1.ownsRow (w.heap.size + 1) 28 2 (.slice ad k cp) k (fl Pt.cs ((l.take k).map (upPt (a, b, d)))) := by rw [hW1]; exact hown.alloc _
            have gz1 : wr.heap.size < W1.heap.size := by rw [hW1]; simp
            clear hW1
            have BL1'' := Lib.hid BL1'
            obtain ⟨x0, x1, x2, y0, y1, y2⟩ := blk3 BL1'
            obtain ⟨z0, z1, v0, v1⟩ := blk2 BP1
            have gz0 : w.heap.size < W1.heap.size := by omega
            have hne2 : wr.heap.size ≠ w.heap.size := by omega
            clear BL1' BP1 c0 c1
            refine wp_region_still_tail 15 (by kernel_rfl) (by kernel_rfl) ?_
            change wpStill _ _ W1.drew _ _ _
            simp only [List.take_succ_cons, List.take_zero, List.drop_succ_cons, List.drop_zero]
            repeat still_step
            refine wpStill_step (fun K hK => ?_)
            go_simp
            with_reducible refine ⟨_, HFl.out _, hK _ ?_⟩
            clear hK K
            repeat still_step
            refine wpStill_nil ?_
            change wpList _ _ _ _ _ W1.drew
            clear w1' w2' w3'
            go_wp2_with (first
              | ((go_at_call 62; ((with_reducible refine (HS.out _).mono ?_); rintro e w4 ⟨rfl, hb4⟩; obtain ⟨hc4, hf4⟩ := bcell hb4; have hz4 := hb4.size; (try simp [sz_drew, sz_drewN] at hz4); (try simp only [sz_drew, sz_drewN] at hc4 hf4); have z4_0 : w.heap.size < w4.heap.size := (by omega))); have hown4 := own_on (own_far (own_drew hown1) (fun b hb => by have := (own_ge hownw b hb).2; show b ≠ wr.heap.size; omega)) hb4; have hbw4 : Below w.heap.size w w4 := (by (repeat' (first | assumption | exact below_refl _ | refine bl_alloc ?_ _ | refine Below.setCell ?_ ?_ _ | refine below_draw ?_ | refine below_drewN ?_ _ | refine below_tr ?_ (by assumption))) <;> (first | omega | (simp; done) | (simp; omega))))
              | (at_builtin; refine wpList_append_own _ rfl _ _ 42 rfl (w.heap.size + 1) 28 i0 (.agg #[.int .i64 0, .int .i64 0]) 2 16 (by kernel_rfl) hi hi1 hi2 hi3 rfl (by omega) _ _ _ rfl (hown4.alloc _) ⟨w4.heap.size, 0, none⟩ 1 1 [.int .i64 p.h, .int .i64 (p.x + q)] rfl rfl (cells_new _ _ _) (fun u hu => by simp at hu; rcases hu with rfl | rfl <;> rfl) (by unfold maxLen; omega) (by omega) (by simp; omega) ?_; intro v' w5 hown5 hgrow _))
            go_roundw
            case rel => exact ⟨k + 1, by omega, by go_num, bl_app hbw4 hown4 hgrow (by omega) (by omega), Lib.hid ((((BL1''.out.drew.far (by simp; omega) _).below hb4 (by simp [World.setCell]; omega)).alloc _).grown hgrow (own_ne hown4 (by omega))), HA, by rw [HST.out, HU.out, fl_snoc]; exact hown5⟩
            case measure => simp [intOf]; omega
        · obtain rfl : k = l.length := by omega
          have ht : l.take l.length = l := List.take_length
          have HY := Lib.hid (HYES.out (by have := HI.out; rwa [ht] at this))
          rw [ht] at hown
          have HOWN := Lib.hid hown
          clear hown ht
          go_wp2
          go_ret2
          exact ⟨_, by rw [HY.out]; rfl, by rw [HY.out]; simpa using own_base HOWN.out (by omega), hbw⟩
end Go.Proofs.Ytohbejdfaecghaa
