/- Gear: GearBears walked. -/
import Derived.Test.YtijlglanpgcdiaaGu
set_option linter.unusedSimpArgs false
set_option linter.unusedVariables false
namespace Go.Proofs.Ytijlglanpgcdiaa
open Go.RowKit Go.Maps

theorem boZ_at {g : List It} {r : List Lk} (hv : VR g r) {L : List Int} (h : ldE r L = 0) {i : Nat} (hi : i < r.length) : (boZ r L).getD i 0 = bv r (endN r r.length) L L.length i := by
  obtain ⟨h1, h2⟩ := ldE_z h
  unfold boZ
  rw [← h1]
  exact boS_at hv h2 h1 i hi _ (Nat.le_refl _)
theorem bo_top {g : List It} {r : List Lk} (hv : VR g r) {L : List Int} (h : ldE r L = 0) : (boZ r L).getD 0 0 = sumN L L.length := by
  obtain ⟨h1, h2⟩ := ldE_z h
  rw [boZ_at hv h (by have := hv.l0; omega)]
  exact bv_top hv _ L (fun k n => endN_lt) L.length (by omega) (Nat.le_refl _)
theorem bo_hangs {g : List It} {r : List Lk} (hv : VR g r) {L : List Int} (h : ldE r L = 0) {i : Nat} (hi : i < r.length) (hk : kids r i r.length ≠ []) : (boZ r L).getD i 0 = sumL (fun j => (boZ r L).getD j 0) (kids r i r.length) := by
  obtain ⟨h1, h2⟩ := ldE_z h
  rw [boZ_at hv h hi, bv_kids hv _ L (fun k n => endN_lt) i L.length (by omega)]
  have hne : i ∉ endN r r.length := by
    intro hm
    unfold endN at hm
    rw [List.mem_filter] at hm
    obtain ⟨j, hj⟩ := List.exists_mem_of_ne_nil _ hk
    obtain ⟨_, hjl⟩ := kid_gt hv hj
    obtain ⟨x, hx⟩ := get_lt hjl
    have := (mem_kids hx).1 hj
    have h3 := isE_no hx this
    rw [h3] at hm; simp at hm
  rw [av_end hne L.length (by omega), Int.zero_add]
  exact sumL_congr fun j hj => (boZ_at hv h (kid_gt hv hj).2).symm
theorem bo_bm {g : List It} {r : List Lk} (hv : VR g r) {L : List Int} (h : ldE r L = 0) : Bm 32000000 (boZ r L) := by
  obtain ⟨h1, h2⟩ := ldE_z h
  have h3 := (boS_bd hv h2 h1 L.length (Nat.le_refl _)).2
  have h4 := endN_len r r.length
  have h5 := hv.l1
  unfold boZ
  rw [← h1]
  intro i x hx
  have := h3 i x hx
  omega
theorem kids_len (r : List Lk) (i k : Nat) : (kids r i k).length ≤ k := by
  have := List.length_filter_le (fun j : Nat => (lkAt r j).fr == (i : Int)) (List.range k)
  simpa [kids] using this
theorem sumL_bd {Z : List Int} {m : Int} (h : Bm m Z) (hm : 0 ≤ m) (l : List Nat) : 0 ≤ sumL (fun j => Z.getD j 0) l ∧ sumL (fun j => Z.getD j 0) l ≤ m * l.length := by
  induction l with
  | nil => simp [sumL]
  | cons x l ih =>
    rw [sumL_cons]
    have h1 := bm_getD h hm x
    have h0 : 0 ≤ Z.getD x 0 := by
      cases hx : Z[x]? with
      | none => simp [List.getD_eq_getElem?_getD, hx]
      | some y => rw [getD_of hx]; exact (h x y hx).1
    refine ⟨by omega, ?_⟩
    have e : m * ((l.length + 1 : Nat) : Int) = m * l.length + m := by rw [Int.natCast_add, Int.mul_add]; simp
    rw [List.length_cons, e]
    generalize m * (l.length : Int) = q at *
    omega
theorem kids_nil {r : List Lk} {i k : Nat} (b : Bool) (h : b = !(kids r i k).isEmpty) : b = true → kids r i k ≠ [] := by
  intro hb e; rw [e] at h; simp [hb] at h
set_option maxHeartbeats 4000000 in
set_option maxRecDepth 20000 in
theorem l_GearBears (A : Option Addr) (g : List It) (c : Nat) (B : Option Addr) (r : List Lk) (d : Nat) (C : Option Addr) (L : List Int) (f : Nat) (w : World) (hl0 : g.length ≤ maxLen) (hR : Rd It.cs 4 w A g) (hW : ∀ x ∈ g, IW x) (hn0 : r.length ≤ maxLen) (hS : Rd Lk.cs 2 w B r) (hV : ∀ x ∈ r, LW x) (hk0 : L.length ≤ maxLen) (hL : Rd zC 1 w C L) (_ : ∀ x ∈ L, True) :
    Calls Try.prog 5 #[.slice A g.length c, .slice B r.length d, .slice C L.length f] w fun e w' => e = .returned (.bool true) ∧ Below w.heap.size w w' := by
  have HM := Lib.hid (fun W (h : Below w.heap.size w W) => l_many A B g r c d W hl0 hn0 (hR.on h) hW (hS.on h) hV)
  by_cases hsh : g.length ≤ 80 ∧ r.length ≤ 40
  rotate_left
  · clear hR hW hS hV hL hl0 hn0 hk0
    go_enter Try.func5, Try.ntmps5
    go_wp2_with (go_at_call 11; ((with_reducible refine (l_awake _).mono ?_); rintro e w1 ⟨rfl, hb1⟩; obtain ⟨hc1, hf1⟩ := bcell hb1; have hz1 := hb1.size; (try simp [sz_drew, sz_drewN] at hz1); (try simp only [sz_drew, sz_drewN] at hc1 hf1)))
    refine (HM.out _ hb1).mono ?_
    rintro e w2 ⟨v, rfl, ⟨b, rfl, hbb⟩, hb2⟩
    have B2 := below_tr hb1 hb2
    obtain rfl : b = true := by cases b; exact absurd (hbb rfl) hsh; rfl
    go_wp2
    go_ret
    exact ⟨rfl, B2⟩
  have hl : g.length ≤ 100000 := by omega
  have hn : r.length ≤ 100000 := by omega
  by_cases hk40 : 40 < (L.length : Int)
  · clear hR hW hS hV hL hl0 hn0
    unfold maxLen at hk0
    go_enter Try.func5, Try.ntmps5
    go_wp2_with (go_at_call 11; ((with_reducible refine (l_awake _).mono ?_); rintro e w1 ⟨rfl, hb1⟩; obtain ⟨hc1, hf1⟩ := bcell hb1; have hz1 := hb1.size; (try simp [sz_drew, sz_drewN] at hz1); (try simp only [sz_drew, sz_drewN] at hc1 hf1)))
    refine (HM.out _ hb1).mono ?_
    rintro e w2 ⟨v, rfl, ⟨b, rfl, hbb⟩, hb2⟩
    have B2 := below_tr hb1 hb2
    cases b
    all_goals
      go_wp2
      go_ret
      exact ⟨rfl, B2⟩
  have hk : L.length ≤ 100000 := by omega
  have H1 := Lib.hid (fun W (h : Below w.heap.size w W) => p_Borne A B C g r L c d f W hl hn hk (hR.on h) hW (hS.on h) hV (hL.on h))
  have H2 := Lib.hid (fun W (h : Below w.heap.size w W) => r_Borne A B C g r L c d f W hl hn hk (hR.on h) hW (hS.on h) hV (hL.on h))
  go_enter Try.func5, Try.ntmps5
  go_wp2_with (go_at_call 11; ((with_reducible refine (l_awake _).mono ?_); rintro e w1 ⟨rfl, hb1⟩; obtain ⟨hc1, hf1⟩ := bcell hb1; have hz1 := hb1.size; (try simp [sz_drew, sz_drewN] at hz1); (try simp only [sz_drew, sz_drewN] at hc1 hf1)))
  refine (HM.out _ hb1).mono ?_
  rintro e w2 ⟨v, rfl, ⟨b, rfl, _⟩, hb2⟩
  have B2 := below_tr hb1 hb2
  clear hb1 hb2 hc1 hf1 hz1
  cases b
  rotate_left
  · go_wp2
    go_ret
    exact ⟨rfl, B2⟩
  by_cases hE : boE g r L = 0
  rotate_left
  · have hlen : (boL g r L).length ≤ 100000 := by unfold boL; rw [if_neg hE]; simp
    have h5 : (boE g r L != 0) = true := by simpa using hE
    generalize boE g r L = E at *
    generalize boL g r L = Z at *
    clear hE
    go_wp2_with (first
      | (go_at_call 27; ((with_reducible refine (H1.out _ B2).mono ?_); rintro e w3 ⟨v, rfl, ⟨A3, c3, rfl, hr3⟩, hb3⟩; have B3 := below_tr B2 hb3))
      | (go_at_call 28; ((with_reducible refine (H2.out _ B3).mono ?_); rintro e w4 ⟨v, rfl, ⟨A4, c4, rfl, hr4⟩, hb4⟩; have B4 := below_tr B3 hb4; have hr3' := hr3.on hb4))
      | ((go_at_call 21; ((with_reducible refine (r_sameInts _ _ _ _ _ _ hlen hr3' hr4).mono ?_); rintro e w5 ⟨rfl, hb5⟩; obtain ⟨hc5, hf5⟩ := bcell hb5; have hz5 := hb5.size; (try simp [sz_drew, sz_drewN] at hz5); (try simp only [sz_drew, sz_drewN] at hc5 hf5))); have B5 := below_tr B4 hb5))
    go_ret
    exact ⟨rfl, B5⟩
  obtain ⟨hvr, hld⟩ : (vldG g && vldR g r) = true ∧ ldE r L = 0 := by
    unfold boE at hE
    split at hE
    · rename_i h; exact ⟨h, hE⟩
    · omega
  have hv := vr_of hvr
  have hBL : boL g r L = boZ r L := by unfold boL; rw [if_pos hE]
  have HTOP := Lib.hid (bo_top hv hld)
  have HHG := Lib.hid (fun (i : Nat) (hi : i < r.length) hk => bo_hangs hv hld hi hk)
  have HBM := Lib.hid (bo_bm hv hld)
  have HZL := Lib.hid (boZ_len hv hld)
  have HBD := Lib.hid (show Bd L from fun i x hx => wn_iff.1 (List.all_eq_true.1 (ldE_z hld).2 x (List.mem_of_getElem? hx)))
  have hr0 := hv.l0
  have hr32 := hv.l1
  rw [hE, hBL] at H1 H2
  generalize boZ r L = Z at *
  have hlen : Z.length ≤ 100000 := by have := HZL.out; omega
  clear hv hvr hld hE hBL
  go_wp2_with (first
    | (go_at_call 27; ((with_reducible refine (H1.out _ B2).mono ?_); rintro e w3 ⟨v, rfl, ⟨A3, c3, rfl, hr3⟩, hb3⟩; have B3 := below_tr B2 hb3))
    | (go_at_call 28; ((with_reducible refine (H2.out _ B3).mono ?_); rintro e w4 ⟨v, rfl, ⟨A4, c4, rfl, hr4⟩, hb4⟩; have B4 := below_tr B3 hb4; have hr3' := hr3.on hb4))
    | ((go_at_call 21; ((with_reducible refine (r_sameInts _ _ _ _ _ _ hlen hr3' hr4).mono ?_); rintro e w5 ⟨rfl, hb5⟩; obtain ⟨hc5, hf5⟩ := bcell hb5; have hz5 := hb5.size; (try simp [sz_drew, sz_drewN] at hz5); (try simp only [sz_drew, sz_drewN] at hc5 hf5))); have B5 := below_tr B4 hb5; have hr5 := hr3'.on hb5))
  have hL5 := hL.on B5
  have hS5 := hS.on B5
  clear hc5 hf5 hz5 hb5 hb4 hb3 hr3 hr4 hr3'
  go_loop [11, 12] (fun s i => ∃ k : Nat, k ≤ L.length ∧ i = .int .i64 k ∧ s = .int .i64 (sumN L k)) (fun _ i => L.length - (intOf i).toNat)
  case atStart => exact ⟨0, by omega, rfl, rfl⟩
  case round =>
    obtain ⟨k, hk, rfl, rfl⟩ := hrel
    have k0 : (0 : Int) ≤ (k : Int) := Int.natCast_nonneg _
    by_cases hlt : k < L.length
    · have k1 : (k : Int) < (L.length : Int) := by omega
      obtain ⟨x, b, off, hx, rfl, hb, c0⟩ := rd_int hL5 hlt
      have h0 := sumN_bd HBD.out k hk
      have h1 := HBD.out k x hx
      have HST := Lib.hid (sumN_step hx)
      generalize sumN L k = S at *
      clear hx
      go_wp2
      go_round
      case rel => exact ⟨k + 1, by omega, by go_num, by rw [HST.out]⟩
      case measure => simp [intOf]; omega
    · obtain rfl : k = L.length := by omega
      obtain ⟨z0, ab, ao, hz0, rfl, hab, e0⟩ := rd_int hr5 (show 0 < Z.length by have := HZL.out; omega)
      rw [Nat.add_zero] at e0
      have h0 := HTOP.out
      rw [getD_of hz0] at h0
      rw [← h0]
      have hz1 : (0 : Int) < (Z.length : Int) := by have := HZL.out; omega
      have hz2 : (z0 != z0) = false := by simp
      clear h0 hz0
      go_wp2
      go_loop [13] (fun i => ∃ k : Nat, k ≤ r.length ∧ i = .int .i64 k) (fun i => r.length - (intOf i).toNat)
      case atStart => exact ⟨0, by omega, rfl⟩
      case round =>
        obtain ⟨i, hi, rfl⟩ := hrel
        have i0 : (0 : Int) ≤ (i : Int) := Int.natCast_nonneg _
        by_cases hil : i < r.length
        · have i1 : (i : Int) < (r.length : Int) := by omega
          have i2 : (i : Int) < (Z.length : Int) := by have := HZL.out; omega
          go_wp2
          go_loop [14, 15, 16] (fun s b j => ∃ k : Nat, k ≤ r.length ∧ j = .int .i64 k ∧ s = .int .i64 (sumL (fun j => Z.getD j 0) (kids r i k)) ∧ b = .bool (!(kids r i k).isEmpty)) (fun _ _ j => r.length - (intOf j).toNat)
          case atStart => exact ⟨0, by omega, rfl, by simp [kids, sumL], by simp [kids]⟩
          case round =>
            obtain ⟨k, hk, rfl, rfl, rfl⟩ := hrel
            have k0 : (0 : Int) ≤ (k : Int) := Int.natCast_nonneg _
            by_cases hkl : k < r.length
            · have k1 : (k : Int) < (r.length : Int) := by omega
              have k2 : (k : Int) < (Z.length : Int) := by have := HZL.out; omega
              obtain ⟨x, rb, ro, hx, rfl, hrb, d0, d1⟩ := rdL hS5 hkl
              obtain ⟨z, ab', ao', hz, e, _, e1⟩ := rd_int hr5 (show k < Z.length by have := HZL.out; omega)
              cases e
              have hzb := HBM.out k z hz
              have hsb := sumL_bd HBM.out (by omega) (kids r i k)
              have hkn := kids_len r i k
              by_cases he : x.fr = (i : Int)
              · have HK := Lib.hid (kids_yes (r := r) (i := i) (k := k) (by rw [lkAt_of hx, he]; simp))
                have HSN := Lib.hid (show sumL (fun j => Z.getD j 0) (kids r i k ++ [k]) = sumL (fun j => Z.getD j 0) (kids r i k) + z by rw [sumL_app]; show _ + (Z.getD k 0 + 0) = _; rw [getD_of hz, Int.add_zero])
                have he1 : (x.fr == (i : Int)) = true := by simpa using he
                have hs2 : sumL (fun j => Z.getD j 0) (kids r i k) ≤ 1024000000 := by omega
                have hs1 := hsb.1
                generalize sumL (fun j => Z.getD j 0) (kids r i k) = S at *
                clear hx hz he hsb
                go_wp2
                go_round
                case rel => exact ⟨k + 1, by omega, by go_num, by rw [HK.out, HSN.out], by rw [HK.out]; simp⟩
                case measure => simp [intOf]; omega
              · have HK := Lib.hid (kids_no (r := r) (i := i) (k := k) (by rw [lkAt_of hx]; simpa using he))
                clear hx hz hsb
                go_wp2
                go_round
                case rel => exact ⟨k + 1, by omega, by go_num, by rw [HK.out], by rw [HK.out]⟩
                case measure => simp [intOf]; omega
            · obtain rfl : k = r.length := by omega
              have HH := Lib.hid (HHG.out i hil)
              obtain ⟨z, ab', ao', hz, e, _, e1⟩ := rd_int hr5 (show i < Z.length by have := HZL.out; omega)
              cases e
              have HGD := Lib.hid (getD_of hz)
              clear hz
              cases hkk : (kids r i r.length).isEmpty
              · have hnn : kids r i r.length ≠ [] := fun e => by rw [e] at hkk; cases hkk
                have h3 := HH.out hnn
                rw [HGD.out] at h3
                rw [← h3]
                have hz3 : (z != z) = false := by simp
                clear h3 hnn
                go_wp2
                go_round
                case rel => exact ⟨i + 1, by omega, by go_num⟩
                case measure => simp [intOf]; omega
              · go_wp2
                go_round
                case rel => exact ⟨i + 1, by omega, by go_num⟩
                case measure => simp [intOf]; omega
        · obtain rfl : i = r.length := by omega
          go_wp2
          go_ret
          exact ⟨rfl, B5⟩
end Go.Proofs.Ytijlglanpgcdiaa
