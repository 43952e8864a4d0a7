/- Gear: Greatest of the reference; weighs; GearMost walked. -/
import Derived.Test.YtijlglanpgcdiaaGzb
set_option linter.unusedSimpArgs false
set_option linter.unusedVariables false
namespace Go.Proofs.Ytijlglanpgcdiaa
open Go.RowKit Go.Maps

theorem grI_is {g : List It} {r : List Lk} (hv : VR g r) (h : shE g r = 0) : grI g r = gr g r 0 := by
  unfold grI onE
  rw [if_pos h]
  exact sh_sum hv
set_option maxHeartbeats 2000000 in
set_option maxRecDepth 20000 in
theorem r_Greatest (A B : Option Addr) (g : List It) (r : List Lk) (c d : Nat) (w : World) (hl : g.length ≤ 100000) (hn : r.length ≤ 100000) (hR : Rd It.cs 4 w A g) (hW : ∀ x ∈ g, IW x) (hS : Rd Lk.cs 2 w B r) (hV : ∀ x ∈ r, LW x) :
    Calls Try.prog 34 #[.slice A g.length c, .slice B r.length d] w fun e w' => e = .returned (.tuple #[.int .i64 (grI g r), .int .i64 (shE g r)]) ∧ Below w.heap.size w w' := by
  have H1 := Lib.hid (fun b h => r_ValidRigV (c := c) (d := d) (b := b) h hl hn hR hW hS hV)
  cases h : (vldG g && vldR g r)
  · have HE := Lib.hid (show shE g r = 1 by unfold shE; rw [if_neg (by simp [h])])
    have HI := Lib.hid (show grI g r = 0 by unfold grI onE; rw [HE.out]; rfl)
    go_enter Try.func34, Try.ntmps34
    go_wp2_with (go_at_call 18; ((with_reducible refine (H1.out _ h).mono ?_); rintro e w1 ⟨rfl, hb1⟩; obtain ⟨hc1, hf1⟩ := bcell hb1; have hz1 := hb1.size; (try simp [sz_drew, sz_drewN] at hz1); (try simp only [sz_drew, sz_drewN] at hc1 hf1)))
    go_ret2
    exact ⟨by rw [HE.out, HI.out]; rfl, by (repeat' (first | assumption | exact below_refl _ | refine bl_alloc ?_ _ | refine Below.setCell ?_ ?_ _ | refine below_draw ?_ | refine below_drewN ?_ _ | refine below_tr ?_ (by assumption))) <;> (first | omega | (simp; done) | (simp; omega))⟩
  have hv := vr_of h
  have HE := Lib.hid (show shE g r = 0 by unfold shE; rw [if_pos h])
  have HI := Lib.hid (grI_is hv HE.out)
  have H2 : Hid (∀ W, Below w.heap.size w W → Calls Try.prog 72 #[.slice A g.length c, .slice B r.length d, .int .i64 0] W fun e w' => e = .returned (.int .i64 (gr g r 0)) ∧ W = w') := Lib.hid (fun W (h : Below w.heap.size w W) => r_greatest A B g r c d W hv hl (hR.on h) (hS.on h) r.length 0 (by have := hv.l0; omega) (by omega))
  go_enter Try.func34, Try.ntmps34
  go_wp2_with (first
    | (go_at_call 18; ((with_reducible refine (H1.out _ h).mono ?_); rintro e w1 ⟨rfl, hb1⟩; obtain ⟨hc1, hf1⟩ := bcell hb1; have hz1 := hb1.size; (try simp [sz_drew, sz_drewN] at hz1); (try simp only [sz_drew, sz_drewN] at hc1 hf1)))
    | (go_at_call 72; ((with_reducible refine (H2.out _ hb1).mono ?_); rintro e w' ⟨rfl, rfl⟩)))
  go_ret2
  exact ⟨by rw [HE.out, HI.out]; rfl, hb1⟩
/-- what weighs says -/
def wgF (g : List It) (r : List Lk) (L : List Int) : Bool := decide (ldE r L = 0) && (List.range r.length).all fun i => decide ((boZ r L).getD i 0 ≤ (ldL g r).getD i 0)
def wgI (g : List It) (r : List Lk) (L : List Int) : Int := if wgF g r L = true then (boZ r L).getD 0 0 else 0
set_option maxHeartbeats 4000000 in
set_option maxRecDepth 20000 in
theorem l_weighs (A B C : Option Addr) (g : List It) (r : List Lk) (L : List Int) (c d f : Nat) (w : World) (hv : VR g r) (hvr : (vldG g && vldR g r) = true) (hl : g.length ≤ 100000) (hn : r.length ≤ 100000) (hk : L.length ≤ 100000) (hR : Rd It.cs 4 w A g) (hW : ∀ x ∈ g, IW x) (hS : Rd Lk.cs 2 w B r) (hV : ∀ x ∈ r, LW x) (hL : Rd zC 1 w C L) :
    Calls Try.prog 37 #[.slice A g.length c, .slice B r.length d, .slice C L.length f] w fun e w' => e = .returned (.tuple #[.int .i64 (wgI g r L), .bool (wgF g r L)]) ∧ Below w.heap.size w w' := by
  have H1 := Lib.hid (p_Borne A B C g r L c d f w hl hn hk hR hW hS hV hL)
  have hbE : boE g r L = ldE r L := by unfold boE; rw [if_pos hvr]
  by_cases hE : ldE r L = 0
  rotate_left
  · have HF := Lib.hid (show wgF g r L = false by unfold wgF; simp [hE])
    have HI := Lib.hid (show wgI g r L = 0 by unfold wgI; rw [HF.out]; rfl)
    rw [hbE] at H1
    have h5 : (ldE r L != 0) = true := by simpa using hE
    generalize ldE r L = X at *
    clear hE
    go_enter Try.func37, Try.ntmps37
    go_wp2_with (go_at_call 27; ((with_reducible refine (H1.out).mono ?_); rintro e w1 ⟨v, rfl, ⟨A1, c1, rfl, hr1⟩, hb1⟩))
    go_ret2
    exact ⟨by rw [HI.out, HF.out]; rfl, hb1⟩
  have hbL : boL g r L = boZ r L := by unfold boL; rw [hbE, if_pos hE]
  rw [hbE, hE, hbL] at H1
  have HWF := Lib.hid (show wgF g r L = (List.range r.length).all fun i => decide ((boZ r L).getD i 0 ≤ (ldL g r).getD i 0) by unfold wgF; simp [hE])
  have HWI := Lib.hid (show wgI g r L = if wgF g r L = true then (boZ r L).getD 0 0 else 0 from rfl)
  have HZL := Lib.hid (boZ_len hv hE)
  have HVV := Lib.hid hv
  have hm0 := hv.l0
  have hn32 := hv.l1
  have HMF := Lib.hid (fun W (h : Below w.heap.size w W) s (hs : s.size ≤ maxLen) => p_Find A g c s W hl (hR.on h) hW hs)
  generalize boZ r L = Z at *
  clear hv hvr hbE hbL hE
  go_enter Try.func37, Try.ntmps37
  go_wp2_with (go_at_call 27; ((with_reducible refine (H1.out).mono ?_); rintro e w1 ⟨v, rfl, ⟨A1, c1, rfl, hr1⟩, hb1⟩))
  have hZ0 : 0 < Z.length := by have := HZL.out; omega
  go_loopw [10] (fun i wr => ∃ k : Nat, k ≤ Z.length ∧ i = .int .i64 k ∧ Below w.heap.size w wr ∧ Below w1.heap.size w1 wr ∧ Hid (∀ i, i < k → Z.getD i 0 ≤ (ldL g r).getD i 0)) (fun i _ => Z.length - (intOf i).toNat)
  case atStart => exact ⟨0, by omega, rfl, hb1, below_refl _, Lib.hid (by intro i hi; omega)⟩
  case round =>
    obtain ⟨k, hk, rfl, hbw, hbv, HA⟩ := hrel
    have k0 : (0 : Int) ≤ (k : Int) := Int.natCast_nonneg _
    by_cases hlt : k < Z.length
    · have k1 : (k : Int) < (Z.length : Int) := by omega
      have hkr : k < r.length := by have := HZL.out; omega
      have k2 : (k : Int) < (r.length : Int) := by omega
      obtain ⟨x, b, off, hx, rfl, hb, c0, c1⟩ := rdL (hS.on hbw) hkr
      have iw := hV x (List.mem_of_getElem? hx)
      have iw1 := iw.m
      obtain ⟨hy, _⟩ := HVV.out.it hx
      have f1 := HVV.out.fnd k x hx
      have f2 := (fnd_bd g x.nm).2
      have hvg := HVV.out.vg
      have HFE := Lib.hid (show fdE g x.nm = 0 by unfold fdE; rw [if_pos hvg, if_pos f1])
      have HFI := Lib.hid (show fdI g x.nm = fndI g x.nm by unfold fdI; rw [if_pos ⟨hvg, f1⟩])
      have HF := Lib.hid (HMF.out wr hbw x.nm iw1)
      rw [HFE.out, HFI.out] at HF
      have hll : (ldL g r)[k]? = some (itR g x).ld := by unfold ldL; rw [List.getElem?_map, hx]; rfl
      have HLD := Lib.hid (getD_of hll)
      obtain ⟨v, hn'⟩ := Int.eq_ofNat_of_zero_le f1
      rw [hn'] at f2 hy HF
      obtain ⟨it, gb, goff, hz, hA, hgb, _⟩ := rdI (hR.on hbw) (show v < g.length by omega)
      rw [show ((v : Nat) : Int).toNat = v by omega, hz] at hy
      cases hy
      have v0 : (0 : Int) ≤ (v : Int) := Int.natCast_nonneg _
      have v1 : (v : Int) < (g.length : Int) := by omega
      obtain ⟨z, ab, ao, hzz, e, hab, e0⟩ := rd_int (hr1.on hbv) hlt
      cases e
      have HZZ := Lib.hid (getD_of hzz)
      subst hA
      have hld : ∀ W, Below w.heap.size w W → W.cell? ⟨gb, goff + v * 4 + 1, none⟩ = some (.int .i64 (itR g x).ld) := fun W h => by
        obtain ⟨it', gb', goff', hz', hA', hgb', d0, d1, d2, d3⟩ := rdI (hR.on h) (show v < g.length by omega)
        rw [hz] at hz'
        cases hz'; cases hA'
        exact d1
      have hzc : ∀ W, Below w1.heap.size w1 W → W.cell? ⟨ab, ao + k, none⟩ = some (.int .i64 z) := fun W h => by
        obtain ⟨z', ab', ao', hzz', e', _, e0'⟩ := rd_int (hr1.on h) hlt
        rw [hzz] at hzz'
        cases hzz'; cases e'
        exact e0'
      have HCL := Lib.hid hld
      have HCZ := Lib.hid hzc
      generalize (itR g x).ld = D at *
      clear hx iw hz hn' hll hzz hld hzc hr1 hb1
      by_cases hD : D < z
      · have HF2 := Lib.hid (show wgF g r L = false by
          rw [HWF.out, List.all_eq_false]
          exact ⟨k, by simpa using hkr, by rw [HZZ.out, HLD.out]; simp; omega⟩)
        have HI2 := Lib.hid (show wgI g r L = 0 by rw [HWI.out, HF2.out]; rfl)
        go_wp2_with (go_at_call 13; ((with_reducible refine (HF.out).mono ?_); rintro e w2 ⟨rfl, hb2⟩; have B2 := below_tr hbw hb2; have V2 := below_tr hbv hb2; have e1 := HCL.out _ B2; have e2 := HCZ.out _ V2))
        go_quiet (fail)
        go_wp2
        go_ret2
        exact ⟨by rw [HI2.out, HF2.out]; rfl, by (repeat' (first | assumption | exact below_refl _ | refine bl_alloc ?_ _ | refine Below.setCell ?_ ?_ _ | refine below_draw ?_ | refine below_drewN ?_ _ | refine below_tr ?_ (by assumption))) <;> (first | omega | (simp; done) | (simp; omega))⟩
      · go_wp2_with (go_at_call 13; ((with_reducible refine (HF.out).mono ?_); rintro e w2 ⟨rfl, hb2⟩; have B2 := below_tr hbw hb2; have V2 := below_tr hbv hb2; have e1 := HCL.out _ B2; have e2 := HCZ.out _ V2))
        go_quiet (fail)
        go_wp2
        go_roundw
        case rel => exact ⟨k + 1, by omega, by go_num, below_drewN B2 _, below_drewN V2 _, Lib.hid (fun i hi => by
          by_cases hik : i = k
          · subst hik; rw [HZZ.out, HLD.out]; omega
          · exact HA.out i (by omega))⟩
        case measure => simp [intOf]; omega
    · obtain rfl : k = Z.length := by omega
      have HF2 := Lib.hid (show wgF g r L = true by
        rw [HWF.out, List.all_eq_true]
        intro i hi
        exact decide_eq_true (HA.out i (by have := HZL.out; simp at hi; omega)))
      obtain ⟨z, ab, ao, hzz, e, hab, e0⟩ := rd_int (hr1.on hbv) hZ0
      cases e
      have HI2 := Lib.hid (show wgI g r L = z by rw [HWI.out, HF2.out, if_pos rfl, getD_of hzz])
      rw [Nat.add_zero] at e0
      have hz1 : (0 : Int) < (Z.length : Int) := by omega
      clear hzz
      go_wp2
      go_ret2
      exact ⟨by rw [HI2.out, HF2.out]; rfl, hbw⟩

set_option maxHeartbeats 4000000 in
set_option maxRecDepth 20000 in
theorem l_GearMost (A : Option Addr) (g : List It) (c : Nat) (B : Option Addr) (r : List Lk) (d : Nat) (n : Int) (C : Option Addr) (L : List Int) (f : Nat) (w : World) (hl0 : g.length ≤ maxLen) (hR : Rd It.cs 4 w A g) (hW : ∀ x ∈ g, IW x) (hn0 : r.length ≤ maxLen) (hS : Rd Lk.cs 2 w B r) (hV : ∀ x ∈ r, LW x) (_ : (Lit.int .i64 n).wf = true) (hk0 : L.length ≤ maxLen) (hL : Rd zC 1 w C L) (_ : ∀ x ∈ L, True) :
    Calls Try.prog 6 #[.slice A g.length c, .slice B r.length d, .int .i64 n, .slice C L.length f] w fun e w' => e = .returned (.bool true) ∧ Below w.heap.size w w' := by
  have HM := Lib.hid (fun W (h : Below w.heap.size w W) => l_many A B g r c d W hl0 hn0 (hR.on h) hW (hS.on h) hV)
  by_cases hsh : g.length ≤ 80 ∧ r.length ≤ 40
  rotate_left
  · clear hR hW hS hV hL hl0 hn0 hk0
    go_enter Try.func6, Try.ntmps6
    go_wp2_with (go_at_call 11; ((with_reducible refine (l_awake _).mono ?_); rintro e w1 ⟨rfl, hb1⟩; obtain ⟨hc1, hf1⟩ := bcell hb1; have hz1 := hb1.size; (try simp [sz_drew, sz_drewN] at hz1); (try simp only [sz_drew, sz_drewN] at hc1 hf1)))
    refine (HM.out _ hb1).mono ?_
    rintro e w2 ⟨v, rfl, ⟨b, rfl, hbb⟩, hb2⟩
    have B2 := below_tr hb1 hb2
    obtain rfl : b = true := by cases b; exact absurd (hbb rfl) hsh; rfl
    go_wp2
    go_ret
    exact ⟨rfl, B2⟩
  have hl : g.length ≤ 100000 := by omega
  have hn : r.length ≤ 100000 := by omega
  by_cases hk40 : 40 < (L.length : Int)
  · clear hR hW hS hV hL hl0 hn0
    unfold maxLen at hk0
    go_enter Try.func6, Try.ntmps6
    go_wp2_with (go_at_call 11; ((with_reducible refine (l_awake _).mono ?_); rintro e w1 ⟨rfl, hb1⟩; obtain ⟨hc1, hf1⟩ := bcell hb1; have hz1 := hb1.size; (try simp [sz_drew, sz_drewN] at hz1); (try simp only [sz_drew, sz_drewN] at hc1 hf1)))
    refine (HM.out _ hb1).mono ?_
    rintro e w2 ⟨v, rfl, ⟨b, rfl, hbb⟩, hb2⟩
    have B2 := below_tr hb1 hb2
    cases b
    all_goals
      go_wp2
      go_ret
      exact ⟨rfl, B2⟩
  have hk : L.length ≤ 100000 := by omega
  have H1 := Lib.hid (fun W (h : Below w.heap.size w W) => p_Most A B g r c d n W hl hn (hR.on h) hW (hS.on h) hV)
  have H2 := Lib.hid (fun W (h : Below w.heap.size w W) => r_Most A B g r c d n W hl hn (hR.on h) hW (hS.on h) hV)
  have H3 := Lib.hid (fun W (h : Below w.heap.size w W) => p_Until A B g r c d W hl hn (hR.on h) hW (hS.on h) hV)
  have H4 := Lib.hid (fun W (h : Below w.heap.size w W) => r_Until A B g r c d W hl hn (hR.on h) hW (hS.on h) hV)
  have H5 := Lib.hid (fun W (h : Below w.heap.size w W) => p_Greatest A B g r c d W hl hn (hR.on h) hW (hS.on h) hV)
  have H6 := Lib.hid (fun W (h : Below w.heap.size w W) => r_Greatest A B g r c d W hl hn (hR.on h) hW (hS.on h) hV)
  have H7 := Lib.hid (fun W (h : Below w.heap.size w W) => p_Shares A B g r c d W hl hn (hR.on h) hW (hS.on h) hV)
  have H8 := Lib.hid (fun W (h : Below w.heap.size w W) => r_Shares A B g r c d W hl hn (hR.on h) hW (hS.on h) hV)
  have HZL := Lib.hid (show (onE (shE g r) (shZ g r)).length ≤ 100000 by
    unfold onE
    split
    · have := endN_len r r.length
      rw [shZ_len]; omega
    · simp)
  cases h : (vldG g && vldR g r)
  · have HE := Lib.hid (show shE g r = 1 by unfold shE; rw [if_neg (by simp [h])])
    rw [HE.out] at H3 H4 H5 H6 H7 H8 HZL
    generalize mtE g r n = E1 at *
    generalize mtI g r n = N1 at *
    generalize unI g r = N2 at *
    generalize grI g r = N3 at *
    have HZ := Lib.hid HZL.out
    go_enter Try.func6, Try.ntmps6
    go_wp2_with (go_at_call 11; ((with_reducible refine (l_awake _).mono ?_); rintro e w1 ⟨rfl, hb1⟩; obtain ⟨hc1, hf1⟩ := bcell hb1; have hz1 := hb1.size; (try simp [sz_drew, sz_drewN] at hz1); (try simp only [sz_drew, sz_drewN] at hc1 hf1)))
    refine (HM.out _ hb1).mono ?_
    rintro e w2 ⟨v, rfl, ⟨b, rfl, _⟩, hb2⟩
    have B2 := below_tr hb1 hb2
    clear hb1 hb2 hc1 hf1 hz1
    cases b
    rotate_left
    · go_wp2
      go_ret
      exact ⟨rfl, B2⟩
    go_wp2_with (first
      | (go_at_call 29; ((with_reducible refine (H1.out _ B2).mono ?_); rintro e w3 ⟨rfl, hb3⟩; have B3 := below_tr B2 hb3))
      | (go_at_call 30; ((with_reducible refine (H2.out _ B3).mono ?_); rintro e w4 ⟨rfl, hb4⟩; have B4 := below_tr B3 hb4))
      | (go_at_call 31; ((with_reducible refine (H3.out _ B4).mono ?_); rintro e w5 ⟨rfl, hb5⟩; have B5 := below_tr B4 hb5))
      | (go_at_call 32; ((with_reducible refine (H4.out _ B5).mono ?_); rintro e w6 ⟨rfl, hb6⟩; have B6 := below_tr B5 hb6))
      | (go_at_call 33; ((with_reducible refine (H5.out _ B6).mono ?_); rintro e w7 ⟨rfl, hb7⟩; have B7 := below_tr B6 hb7))
      | (go_at_call 34; ((with_reducible refine (H6.out _ B7).mono ?_); rintro e w8 ⟨rfl, hb8⟩; have B8 := below_tr B7 hb8))
      | (go_at_call 35; ((with_reducible refine (H7.out _ B8).mono ?_); rintro e w9 ⟨v9, rfl, hv9, hb9⟩; obtain ⟨A9, c9, rfl, hr9⟩ := gotZ_rd hv9; have B9 := below_tr B8 hb9))
      | (go_at_call 36; ((with_reducible refine (H8.out _ B9).mono ?_); rintro e w10 ⟨v10, rfl, ⟨A10, c10, rfl, hr10⟩, hb10⟩; have B10 := below_tr B9 hb10; have hr9' := hr9.on hb10))
      | (go_at_call 21; ((with_reducible refine (r_sameInts _ _ _ _ _ _ HZ.out hr9' hr10).mono ?_); rintro e w11 ⟨rfl, hb11⟩; obtain ⟨hc11, hf11⟩ := bcell hb11; have hz11 := hb11.size; (try simp [sz_drew, sz_drewN] at hz11); (try simp only [sz_drew, sz_drewN] at hc11 hf11))))
    go_ret
    exact ⟨rfl, below_tr B10 hb11⟩
  have HE := Lib.hid (show shE g r = 0 by unfold shE; rw [if_pos h])
  have hv := vr_of h
  have hZ1 : onE 0 (shZ g r) = shZ g r := rfl
  rw [HE.out] at H7
  rw [HE.out, hZ1] at H8 HZL
  rw [HE.out] at H3 H4 H5 H6
  have HGR := Lib.hid (grI_is hv HE.out)
  have H9 := Lib.hid (fun W (h' : Below w.heap.size w W) C' f' hZ => l_weighs A B C' g r (shZ g r) c d f' W hv h hl hn HZL.out (hR.on h') hW (hS.on h') hV hZ)
  have HF1 := Lib.hid (show wgF g r (shZ g r) = true by
    unfold wgF
    rw [Bool.and_eq_true, List.all_eq_true]
    exact ⟨by simpa using sh_ok hv, fun i hi => decide_eq_true (sh_fits hv (by simpa using hi))⟩)
  have HI1 := Lib.hid (show wgI g r (shZ g r) = grI g r by unfold wgI; rw [if_pos HF1.out, sh_all hv, HGR.out])
  rw [HF1.out, HI1.out] at H9
  have H10 := Lib.hid (fun W (h' : Below w.heap.size w W) => l_weighs A B C g r L c d f W hv h hl hn hk (hR.on h') hW (hS.on h') hV (hL.on h'))
  have HLE := Lib.hid (show wgF g r L = true → wgI g r L ≤ grI g r from fun hF => by
    have h2 := hF
    unfold wgF at h2
    rw [Bool.and_eq_true, List.all_eq_true] at h2
    unfold wgI
    rw [if_pos hF, HGR.out]
    exact other_le hv (by simpa using h2.1) fun i hi => by simpa using h2.2 i (by simpa using hi))
  have HG7 := Lib.hid (fun (W W' : World) (v : Value) (h : GotZ W W' v 0 (shZ g r)) => gotZ_rd h)
  rw [hZ1] at HG7
  generalize shZ g r = Z at *
  generalize mtE g r n = E1 at *
  generalize mtI g r n = N1 at *
  generalize unI g r = N2 at *
  generalize grI g r = N3 at *
  generalize wgF g r L = F2 at *
  generalize wgI g r L = N4 at *
  clear hv hZ1
  have hZl := HZL.out
  go_enter Try.func6, Try.ntmps6
  go_wp2_with (go_at_call 11; ((with_reducible refine (l_awake _).mono ?_); rintro e w1 ⟨rfl, hb1⟩; obtain ⟨hc1, hf1⟩ := bcell hb1; have hz1 := hb1.size; (try simp [sz_drew, sz_drewN] at hz1); (try simp only [sz_drew, sz_drewN] at hc1 hf1)))
  refine (HM.out _ hb1).mono ?_
  rintro e w2 ⟨v, rfl, ⟨b, rfl, _⟩, hb2⟩
  have B2 := below_tr hb1 hb2
  clear hb1 hb2 hc1 hf1 hz1
  cases b
  rotate_left
  · go_wp2
    go_ret
    exact ⟨rfl, B2⟩
  cases F2
  · go_wp2_with (first
      | (go_at_call 29; ((with_reducible refine (H1.out _ B2).mono ?_); rintro e w3 ⟨rfl, hb3⟩; have B3 := below_tr B2 hb3))
      | (go_at_call 30; ((with_reducible refine (H2.out _ B3).mono ?_); rintro e w4 ⟨rfl, hb4⟩; have B4 := below_tr B3 hb4))
      | (go_at_call 31; ((with_reducible refine (H3.out _ B4).mono ?_); rintro e w5 ⟨rfl, hb5⟩; have B5 := below_tr B4 hb5))
      | (go_at_call 32; ((with_reducible refine (H4.out _ B5).mono ?_); rintro e w6 ⟨rfl, hb6⟩; have B6 := below_tr B5 hb6))
      | (go_at_call 33; ((with_reducible refine (H5.out _ B6).mono ?_); rintro e w7 ⟨rfl, hb7⟩; have B7 := below_tr B6 hb7))
      | (go_at_call 34; ((with_reducible refine (H6.out _ B7).mono ?_); rintro e w8 ⟨rfl, hb8⟩; have B8 := below_tr B7 hb8))
      | (go_at_call 35; ((with_reducible refine (H7.out _ B8).mono ?_); rintro e w9 ⟨v9, rfl, hv9, hb9⟩; obtain ⟨A9, c9, rfl, hr9⟩ := HG7.out _ _ _ hv9; have B9 := below_tr B8 hb9))
      | (go_at_call 36; ((with_reducible refine (H8.out _ B9).mono ?_); rintro e w10 ⟨v10, rfl, ⟨A10, c10, rfl, hr10⟩, hb10⟩; have B10 := below_tr B9 hb10; have hr9' := hr9.on hb10))
      | ((go_at_call 21; ((with_reducible refine (r_sameInts _ _ _ _ _ _ hZl hr9' hr10).mono ?_); rintro e w11 ⟨rfl, hb11⟩; obtain ⟨hc11, hf11⟩ := bcell hb11; have hz11 := hb11.size; (try simp [sz_drew, sz_drewN] at hz11); (try simp only [sz_drew, sz_drewN] at hc11 hf11))); have B11 := below_tr B10 hb11; have hr11 := hr9'.on hb11)
      | (go_at_call 37; ((with_reducible refine (H9.out _ B11 _ _ hr11).mono ?_); rintro e w12 ⟨rfl, hb12⟩; have B12 := below_tr B11 hb12))
      | (go_at_call 37; ((with_reducible refine (H10.out _ B12).mono ?_); rintro e w13 ⟨rfl, hb13⟩; have B13 := below_tr B12 hb13)))
    go_ret
    exact ⟨ret_bool (by simp), B13⟩
  · have hle := HLE.out rfl
    go_wp2_with (first
      | (go_at_call 29; ((with_reducible refine (H1.out _ B2).mono ?_); rintro e w3 ⟨rfl, hb3⟩; have B3 := below_tr B2 hb3))
      | (go_at_call 30; ((with_reducible refine (H2.out _ B3).mono ?_); rintro e w4 ⟨rfl, hb4⟩; have B4 := below_tr B3 hb4))
      | (go_at_call 31; ((with_reducible refine (H3.out _ B4).mono ?_); rintro e w5 ⟨rfl, hb5⟩; have B5 := below_tr B4 hb5))
      | (go_at_call 32; ((with_reducible refine (H4.out _ B5).mono ?_); rintro e w6 ⟨rfl, hb6⟩; have B6 := below_tr B5 hb6))
      | (go_at_call 33; ((with_reducible refine (H5.out _ B6).mono ?_); rintro e w7 ⟨rfl, hb7⟩; have B7 := below_tr B6 hb7))
      | (go_at_call 34; ((with_reducible refine (H6.out _ B7).mono ?_); rintro e w8 ⟨rfl, hb8⟩; have B8 := below_tr B7 hb8))
      | (go_at_call 35; ((with_reducible refine (H7.out _ B8).mono ?_); rintro e w9 ⟨v9, rfl, hv9, hb9⟩; obtain ⟨A9, c9, rfl, hr9⟩ := HG7.out _ _ _ hv9; have B9 := below_tr B8 hb9))
      | (go_at_call 36; ((with_reducible refine (H8.out _ B9).mono ?_); rintro e w10 ⟨v10, rfl, ⟨A10, c10, rfl, hr10⟩, hb10⟩; have B10 := below_tr B9 hb10; have hr9' := hr9.on hb10))
      | ((go_at_call 21; ((with_reducible refine (r_sameInts _ _ _ _ _ _ hZl hr9' hr10).mono ?_); rintro e w11 ⟨rfl, hb11⟩; obtain ⟨hc11, hf11⟩ := bcell hb11; have hz11 := hb11.size; (try simp [sz_drew, sz_drewN] at hz11); (try simp only [sz_drew, sz_drewN] at hc11 hf11))); have B11 := below_tr B10 hb11; have hr11 := hr9'.on hb11)
      | (go_at_call 37; ((with_reducible refine (H9.out _ B11 _ _ hr11).mono ?_); rintro e w12 ⟨rfl, hb12⟩; have B12 := below_tr B11 hb12))
      | (go_at_call 37; ((with_reducible refine (H10.out _ B12).mono ?_); rintro e w13 ⟨rfl, hb13⟩; have B13 := below_tr B12 hb13)))
    go_ret
    exact ⟨ret_bool (by simp; try omega), B13⟩
end Go.Proofs.Ytijlglanpgcdiaa
