/- Lean: Raised by the program. -/
import Derived.Test.YtohbejdfaecghaaOwn
import Derived.Test.YtohbejdfaecghaaLpn
set_option linter.unusedSimpArgs false
set_option linter.unusedVariables false
namespace Go.Proofs.Ytohbejdfaecghaa
open Go.RowKit

theorem Pt.cs_len (p : Pt) : p.cs.length = 2 := rfl
theorem info_point : ∃ i : TypeInfo, Try.prog.info? 28 = some i ∧ i.zero = some (.agg #[.int .i64 0, .int .i64 0]) ∧ i.size = 2 ∧ i.bytes = 16 := info_parts (by kernel_rfl)
theorem rsd_step {l : List Pt} {x : Ln} {k : Nat} {p : Pt} (hp : l[k]? = some p) : (l.take (k + 1)).map (upPt x) = (l.take k).map (upPt x) ++ [upPt x p] := by
  rw [List.take_add_one, hp]; simp
theorem rsd_no {l : List Pt} {x : Ln} {k : Nat} {p : Pt} (hv : vldP l = true) (hl : vldL x.1 x.2.1 x.2.2 = true) (hp : l[k]? = some p) (h : sndP (upPt x p) = false) : rsdL l x = ([], 4) := by
  unfold rsdL
  rw [if_pos ⟨hv, hl⟩, if_neg]
  intro hc
  rw [List.all_eq_true] at hc
  have := hc (upPt x p) (List.mem_map.2 ⟨p, List.mem_of_getElem? hp, rfl⟩)
  rw [h] at this; cases this
theorem rsd_all {l : List Pt} {x : Ln} {k : Nat} {p : Pt} (h : ((l.take k).map (upPt x)).all sndP = true) (hp : l[k]? = some p) (hs : sndP (upPt x p) = true) : ((l.take (k + 1)).map (upPt x)).all sndP = true := by
  rw [rsd_step hp, List.all_append, h]; simp [hs]
theorem rsd_yes {l : List Pt} {x : Ln} (hv : vldP l = true) (hl : vldL x.1 x.2.1 x.2.2 = true) (h : (l.map (upPt x)).all sndP = true) : rsdL l x = (l.map (upPt x), 0) := by
  unfold rsdL
  rw [if_pos ⟨hv, hl⟩, if_pos h]
theorem up_neg {a b d : Int} {p : Pt} (hd : 0 < d) (h : (a + b * p.h).tmod d < 0) : upPt (a, b, d) p = ⟨p.h, p.x + ((a + b * p.h).tdiv d - 1)⟩ := by
  have := tdiv_floor (n := a + b * p.h) hd
  rw [if_pos h] at this
  unfold upPt upBy
  rw [← this]
theorem up_pos {a b d : Int} {p : Pt} (hd : 0 < d) (h : ¬ (a + b * p.h).tmod d < 0) : upPt (a, b, d) p = ⟨p.h, p.x + (a + b * p.h).tdiv d⟩ := by
  have := tdiv_floor (n := a + b * p.h) hd
  rw [if_neg h] at this
  unfold upPt upBy
  rw [← this]
theorem tdiv_bd {n d B : Int} (hd : 0 < d) (h1 : -B ≤ n) (h2 : n ≤ B) : -B ≤ n.tdiv d ∧ n.tdiv d ≤ B := by
  have h : (n.tdiv d).natAbs ≤ n.natAbs := by rw [Int.natAbs_tdiv]; exact Nat.div_le_self _ _
  omega
set_option maxHeartbeats 2000000 in
set_option maxRecDepth 20000 in
theorem p_Raised (A : Option Addr) (l : List Pt) (c : Nat) (a b d : Int) (w : World) (hn : l.length ≤ 100000) (hR : Rd Pt.cs 2 w A l) :
    Calls Try.prog 55 #[.slice A l.length c, lineV a b d] w fun e w' => ∃ v, e = .returned (.tuple #[v, .int .i64 (rsdL l (a, b, d)).2]) ∧ w'.ownsRow w.heap.size 28 2 v (rsdL l (a, b, d)).1.length (fl Pt.cs (rsdL l (a, b, d)).1) ∧ Below w.heap.size w w' := by
  have HV := Lib.hid (fun W (h : Below w.heap.size w W) => p_validPoints A l c W hn (hR.on h))
  cases hp : vldP l
  · have HB := Lib.hid (show rsdL l (a, b, d) = ([], 1) by simp [rsdL, hp])
    clear hR
    go_enter Try.func55, Try.ntmps55
    go_wp2_with (go_at_call 30; ((with_reducible refine (calls_bool hp (HV.out _ (below_alloc _ _))).mono ?_); rintro e w1 ⟨rfl, hb1⟩; obtain ⟨hc1, hf1⟩ := bcell hb1; have hz1 := hb1.size; (try simp [sz_drew, sz_drewN] at hz1); (try simp only [sz_drew, sz_drewN] at hc1 hf1); have z1_0 : w.heap.size < w1.heap.size := (by omega)))
    go_ret2
    exact ⟨_, by rw [HB.out]; rfl, by rw [HB.out]; exact World.ownsRow_nil _ _ _ _, by (repeat' (first | assumption | exact below_refl _ | refine bl_alloc ?_ _ | refine Below.setCell ?_ ?_ _ | refine below_draw ?_ | refine below_drewN ?_ _ | refine below_tr ?_ (by assumption))) <;> (first | omega | (simp; done) | (simp; omega))⟩
  · cases hv : vldL a b d
    · have HB := Lib.hid (show rsdL l (a, b, d) = ([], 1) by simp [rsdL, hv])
      clear hR
      go_enter Try.func55, Try.ntmps55
      go_wp2_with (first
        | (go_at_call 30; ((with_reducible refine (calls_bool hp (HV.out _ (below_alloc _ _))).mono ?_); rintro e w1 ⟨rfl, hb1⟩; obtain ⟨hc1, hf1⟩ := bcell hb1; have hz1 := hb1.size; (try simp [sz_drew, sz_drewN] at hz1); (try simp only [sz_drew, sz_drewN] at hc1 hf1); have z1_0 : w.heap.size < w1.heap.size := (by omega)))
        | (go_at_call 23; ((with_reducible refine (calls_bool hv (p_validLine a b d _)).mono ?_); rintro e w2 ⟨rfl, hb2⟩; obtain ⟨hc2, hf2⟩ := bcell hb2; have hz2 := hb2.size; (try simp [sz_drew, sz_drewN] at hz2); (try simp only [sz_drew, sz_drewN] at hc2 hf2); have z2_0 : w.heap.size < w2.heap.size := (by omega))))
      go_ret2
      exact ⟨_, by rw [HB.out]; rfl, by rw [HB.out]; exact World.ownsRow_nil _ _ _ _, by (repeat' (first | assumption | exact below_refl _ | refine bl_alloc ?_ _ | refine Below.setCell ?_ ?_ _ | refine below_draw ?_ | refine below_drewN ?_ _ | refine below_tr ?_ (by assumption))) <;> (first | omega | (simp; done) | (simp; omega))⟩
    · obtain ⟨h1, h2⟩ := vld_len hp
      have hs := vld_sp hp
      have hd := vld_pos hv
      obtain ⟨a0, a1, b0, b1, d0, d1⟩ := lb_of (vld_in hv)
      obtain ⟨i0, hi, hi1, hi2, hi3⟩ := info_point
      have HNO := Lib.hid (fun (k : Nat) (p : Pt) h => rsd_no (x := (a, b, d)) (k := k) (p := p) hp hv h)
      have HYES := Lib.hid (rsd_yes (x := (a, b, d)) hp hv)
      have HPL := Lib.hid (Blk.new w 30 #[.int .i64 a, .int .i64 b, .int .i64 d])
      go_enter Try.func55, Try.ntmps55
      go_wp2_with (first
        | ((go_at_call 30; ((with_reducible refine (calls_bool hp (HV.out _ (below_alloc _ _))).mono ?_); rintro e w1 ⟨rfl, hb1⟩; obtain ⟨hc1, hf1⟩ := bcell hb1; have hz1 := hb1.size; (try simp [sz_drew, sz_drewN] at hz1); (try simp only [sz_drew, sz_drewN] at hc1 hf1); have z1_0 : w.heap.size < w1.heap.size := (by omega))); have BL1 := Lib.hid (HPL.out.below hb1 (by simp)); have B1 : Below w.heap.size w w1 := (by (repeat' (first | assumption | exact below_refl _ | refine bl_alloc ?_ _ | refine Below.setCell ?_ ?_ _ | refine below_draw ?_ | refine below_drewN ?_ _ | refine below_tr ?_ (by assumption))) <;> (first | omega | (simp; done) | (simp; omega))))
        | ((go_at_call 23; ((with_reducible refine (calls_bool hv (p_validLine a b d _)).mono ?_); rintro e w2 ⟨rfl, hb2⟩; obtain ⟨hc2, hf2⟩ := bcell hb2; have hz2 := hb2.size; (try simp [sz_drew, sz_drewN] at hz2); (try simp only [sz_drew, sz_drewN] at hc2 hf2); have z2_0 : w.heap.size < w2.heap.size := (by omega))); have BL2 := Lib.hid (BL1.out.below hb2 BL1.out.lt); have B2 : Below w.heap.size w w2 := (by (repeat' (first | assumption | exact below_refl _ | refine bl_alloc ?_ _ | refine Below.setCell ?_ ?_ _ | refine below_draw ?_ | refine below_drewN ?_ _ | refine below_tr ?_ (by assumption))) <;> (first | omega | (simp; done) | (simp; omega)))))
      go_loopw [6, 21] (fun o i wr => ∃ k : Nat, k ≤ l.length ∧ i = .int .i64 k ∧ Below w.heap.size w wr ∧ Hid (Blk wr w.heap.size 30 #[.int .i64 a, .int .i64 b, .int .i64 d]) ∧ Hid (((l.take k).map (upPt (a, b, d))).all sndP = true) ∧ wr.ownsRow (w.heap.size + 1) 28 2 o k (fl Pt.cs ((l.take k).map (upPt (a, b, d))))) (fun _ i _ => l.length - (intOf i).toNat)
      case atStart => exact ⟨0, by omega, rfl, B2, BL2, Lib.hid (by simp), by simpa [fl] using World.ownsRow_nil w2 _ _ _⟩
      case round =>
        obtain ⟨k, hk, rfl, hbw, BL, HI, hown⟩ := hrel
        obtain ⟨ad, cp, rfl⟩ := own_slice hown
        by_cases hlt : k < l.length
        · have k0 : (0 : Int) ≤ (k : Int) := Int.natCast_nonneg _
          have k1 : (k : Int) < (l.length : Int) := by omega
          obtain ⟨p, ab, off, hx, rfl, hab, c0, c1⟩ := rdP (hR.on hbw) hlt
          obtain ⟨s0, s1, s2, s3⟩ := hs p (List.mem_of_getElem? hx)
          have mb := mul_bd (a := b) (b := p.h) (A := 1000000000000) (B := 200000) b0 b1 (by omega) s1
          obtain ⟨m0, m1⟩ := mb
          have tb := tdiv_bd (n := a + b * p.h) (B := 400000000000000000) hd (by omega) (by omega)
          obtain ⟨t0, t1⟩ := tb
          have HX := Lib.hid hx
          have hgb := BL.out.lt
          obtain ⟨q0, q1, q2, _, _, _⟩ : wr.cell? ⟨w.heap.size, 0, none⟩ = some (.int .i64 a) ∧ wr.cell? ⟨w.heap.size, 1, none⟩ = some (.int .i64 b) ∧ wr.cell? ⟨w.heap.size, 2, none⟩ = some (.int .i64 d) ∧ True ∧ True ∧ True := ⟨BL.out.cell 0, BL.out.cell 1, BL.out.cell 2, trivial, trivial, trivial⟩
          have hne : w.heap.size ≠ wr.heap.size := by omega
          have e1 : IntKind.i64.wrap ((a + b * p.h).tdiv d) = (a + b * p.h).tdiv d := fits_wrap ⟨by omega, by omega⟩
          have hd0 : ¬ d = 0 := by omega
          clear hx hs
          by_cases hm : (a + b * p.h).tmod d < 0
          · have u0 : decide ((a + b * p.h).tmod d < 0) = true := by simpa using hm
            have HU := Lib.hid (up_neg hd hm)
            cases hsd : sndP ⟨p.h, p.x + ((a + b * p.h).tdiv d - 1)⟩
            · skip
              have HS := Lib.hid (fun W => calls_bool hsd (p_sound ⟨p.h, p.x + ((a + b * p.h).tdiv d - 1)⟩ W))
              have HN := Lib.hid (HNO.out k p HX.out (by rw [HU.out]; exact hsd))
              clear hsd
              go_wp2_with (go_at_call 60; ((with_reducible refine (HS.out _).mono ?_); rintro e w3 ⟨rfl, hb3⟩; obtain ⟨hc3, hf3⟩ := bcell hb3; have hz3 := hb3.size; (try simp [sz_drew, sz_drewN] at hz3); (try simp only [sz_drew, sz_drewN] at hc3 hf3); have z3_0 : w.heap.size < w3.heap.size := (by omega)))
              go_ret2
              exact ⟨_, by rw [HN.out]; rfl, by rw [HN.out]; exact World.ownsRow_nil _ _ _ _, by (repeat' (first | assumption | exact below_refl _ | refine bl_alloc ?_ _ | refine Below.setCell ?_ ?_ _ | refine below_draw ?_ | refine below_drewN ?_ _ | refine below_tr ?_ (by assumption))) <;> (first | omega | (simp; done) | (simp; omega))⟩
            · skip
              have HS := Lib.hid (fun W => calls_bool hsd (p_sound ⟨p.h, p.x + ((a + b * p.h).tdiv d - 1)⟩ W))
              have HA := Lib.hid (rsd_all HI.out HX.out (by rw [HU.out]; exact hsd))
              have HST := Lib.hid (rsd_step (x := (a, b, d)) HX.out)
              clear hsd
              go_wp2_with (first
                | ((go_at_call 60; ((with_reducible refine (HS.out _).mono ?_); rintro e w3 ⟨rfl, hb3⟩; obtain ⟨hc3, hf3⟩ := bcell hb3; have hz3 := hb3.size; (try simp [sz_drew, sz_drewN] at hz3); (try simp only [sz_drew, sz_drewN] at hc3 hf3); have z3_0 : w.heap.size < w3.heap.size := (by omega))); have hown3 := own_on (hown.alloc _) hb3; have hbw3 : Below w.heap.size w w3 := (by (repeat' (first | assumption | exact below_refl _ | refine bl_alloc ?_ _ | refine Below.setCell ?_ ?_ _ | refine below_draw ?_ | refine below_drewN ?_ _ | refine below_tr ?_ (by assumption))) <;> (first | omega | (simp; done) | (simp; omega))))
                | (at_builtin; refine wpList_append_own _ rfl _ _ 42 rfl (w.heap.size + 1) 28 i0 (.agg #[.int .i64 0, .int .i64 0]) 2 16 (by kernel_rfl) hi hi1 hi2 hi3 rfl (by omega) _ _ _ rfl (hown3.alloc _) ⟨w3.heap.size, 0, none⟩ 1 1 [.int .i64 p.h, .int .i64 (p.x + ((a + b * p.h).tdiv d - 1))] rfl rfl (cells_new _ _ _) (fun u hu => by simp at hu; rcases hu with rfl | rfl <;> rfl) (by unfold maxLen; omega) (by omega) (by simp; omega) ?_; intro v' w4 hown4 hgrow _))
              go_roundw
              case rel => exact ⟨k + 1, by omega, by go_num, bl_app hbw3 hown3 hgrow (by omega) (by omega), Lib.hid ((((BL.out.alloc _).below hb3 (by simp; omega)).alloc _).grown hgrow (own_ne hown3 (by omega))), HA, by rw [HST.out, HU.out, fl_snoc]; exact hown4⟩
              case measure => simp [intOf]; omega
          · have u0 : decide ((a + b * p.h).tmod d < 0) = false := by simpa using hm
            have HU := Lib.hid (up_pos hd hm)
            cases hsd : sndP ⟨p.h, p.x + (a + b * p.h).tdiv d⟩
            · skip
              have HS := Lib.hid (fun W => calls_bool hsd (p_sound ⟨p.h, p.x + (a + b * p.h).tdiv d⟩ W))
              have HN := Lib.hid (HNO.out k p HX.out (by rw [HU.out]; exact hsd))
              clear hsd
              go_wp2_with (go_at_call 60; ((with_reducible refine (HS.out _).mono ?_); rintro e w3 ⟨rfl, hb3⟩; obtain ⟨hc3, hf3⟩ := bcell hb3; have hz3 := hb3.size; (try simp [sz_drew, sz_drewN] at hz3); (try simp only [sz_drew, sz_drewN] at hc3 hf3); have z3_0 : w.heap.size < w3.heap.size := (by omega)))
              go_ret2
              exact ⟨_, by rw [HN.out]; rfl, by rw [HN.out]; exact World.ownsRow_nil _ _ _ _, by (repeat' (first | assumption | exact below_refl _ | refine bl_alloc ?_ _ | refine Below.setCell ?_ ?_ _ | refine below_draw ?_ | refine below_drewN ?_ _ | refine below_tr ?_ (by assumption))) <;> (first | omega | (simp; done) | (simp; omega))⟩
            · skip
              have HS := Lib.hid (fun W => calls_bool hsd (p_sound ⟨p.h, p.x + (a + b * p.h).tdiv d⟩ W))
              have HA := Lib.hid (rsd_all HI.out HX.out (by rw [HU.out]; exact hsd))
              have HST := Lib.hid (rsd_step (x := (a, b, d)) HX.out)
              clear hsd
              go_wp2_with (first
                | ((go_at_call 60; ((with_reducible refine (HS.out _).mono ?_); rintro e w3 ⟨rfl, hb3⟩; obtain ⟨hc3, hf3⟩ := bcell hb3; have hz3 := hb3.size; (try simp [sz_drew, sz_drewN] at hz3); (try simp only [sz_drew, sz_drewN] at hc3 hf3); have z3_0 : w.heap.size < w3.heap.size := (by omega))); have hown3 := own_on (hown.alloc _) hb3; have hbw3 : Below w.heap.size w w3 := (by (repeat' (first | assumption | exact below_refl _ | refine bl_alloc ?_ _ | refine Below.setCell ?_ ?_ _ | refine below_draw ?_ | refine below_drewN ?_ _ | refine below_tr ?_ (by assumption))) <;> (first | omega | (simp; done) | (simp; omega))))
                | (at_builtin; refine wpList_append_own _ rfl _ _ 42 rfl (w.heap.size + 1) 28 i0 (.agg #[.int .i64 0, .int .i64 0]) 2 16 (by kernel_rfl) hi hi1 hi2 hi3 rfl (by omega) _ _ _ rfl (hown3.alloc _) ⟨w3.heap.size, 0, none⟩ 1 1 [.int .i64 p.h, .int .i64 (p.x + (a + b * p.h).tdiv d)] rfl rfl (cells_new _ _ _) (fun u hu => by simp at hu; rcases hu with rfl | rfl <;> rfl) (by unfold maxLen; omega) (by omega) (by simp; omega) ?_; intro v' w4 hown4 hgrow _))
              go_roundw
              case rel => exact ⟨k + 1, by omega, by go_num, bl_app hbw3 hown3 hgrow (by omega) (by omega), Lib.hid ((((BL.out.alloc _).below hb3 (by simp; omega)).alloc _).grown hgrow (own_ne hown3 (by omega))), HA, by rw [HST.out, HU.out, fl_snoc]; exact hown4⟩
              case measure => simp [intOf]; omega
        · obtain rfl : k = l.length := by omega
          have ht : l.take l.length = l := List.take_length
          have HY := Lib.hid (HYES.out (by have := HI.out; rwa [ht] at this))
          rw [ht] at hown
          have HOWN := Lib.hid hown
          clear hown ht
          go_wp2
          go_ret2
          exact ⟨_, by rw [HY.out]; rfl, by rw [HY.out]; simpa using own_base HOWN.out (by omega), hbw⟩
end Go.Proofs.Ytohbejdfaecghaa
