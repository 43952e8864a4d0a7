/- Gear: Weak by the reference; May by both. -/
import Derived.Test.YtijlglanpgcdiaaGvb
set_option linter.unusedSimpArgs false
set_option linter.unusedVariables false
namespace Go.Proofs.Ytijlglanpgcdiaa
open Go.RowKit Go.Maps

theorem r_HasQ {b : Bool} (A : Option Addr) (l : List ByteArray) (c : Nat) (s : ByteArray) (h : hasB l s = b) (w : World) (n : Nat) (hl : l.length ≤ 100000) (hR : Rd sC 1 w A l) :
    Calls Try.prog 79 #[.slice A l.length c, .string s] (w.drewN n) fun e w' => e = .returned (.bool b) ∧ ∃ m, w' = w.drewN m :=
  h ▸ Calls.quiet_of_same (r_Has A l c s _ hl (hR.on (below_drewN (below_refl _) n)))
set_option maxHeartbeats 4000000 in
set_option maxRecDepth 20000 in
theorem r_Weak (A B C D : Option Addr) (g : List It) (r : List Lk) (back : List ByteArray) (day : Int) (L : List Int) (c d cb f : Nat) (w : World) (hl : g.length ≤ 100000) (hn : r.length ≤ 100000) (hbk : back.length ≤ 100000) (hk : L.length ≤ 100000) (hR : Rd It.cs 4 w A g) (hW : ∀ x ∈ g, IW x) (hS : Rd Lk.cs 2 w B r) (hV : ∀ x ∈ r, LW x) (hC : Rd sC 1 w C back) (hL : Rd zC 1 w D L) :
    Calls Try.prog 41 #[.slice A g.length c, .slice B r.length d, .slice C back.length cb, .int .i64 day, .slice D L.length f] w fun e w' => ∃ v, e = .returned (.tuple #[v, .int .i64 (wkE g r back day L)]) ∧ GotW w' v (onE (wkE g r back day L) (wkZ g r back day L)) ∧ Below w.heap.size w w' := by
  have H1 := Lib.hid (fun b h => r_ValidRigV (c := c) (d := d) (b := b) h hl hn hR hW hS hV)
  have H2 := Lib.hid (fun W (hb : Below w.heap.size w W) => r_endsZ B r d W hn (hS.on hb))
  have H3 := Lib.hid (fun W (hb : Below w.heap.size w W) => r_loaded B D r L d f W hn hk (hS.on hb) (hL.on hb))
  have HEL := Lib.hid (endZ_len2 r)
  have HE0 := Lib.hid (show wkE g r back day L = if (vldG g && vldR g r) = true then (if back.length ≤ 100 then (if L.length = (endN r r.length).length then (if wn day 0 100000 = true then ldE r L else 7) else 9) else 4) else 1 from rfl)
  go_enter Try.func41, Try.ntmps41
  go_wp2_with fail
  refine (H1.out _ rfl).mono ?_
  rintro e w1 ⟨rfl, B1⟩
  cases h : (vldG g && vldR g r)
  · have HE := Lib.hid (show wkE g r back day L = 1 by rw [HE0.out, if_neg (by simp [h])])
    go_wp2
    go_ret2
    exact ⟨_, by rw [HE.out]; rfl, by rw [HE.out]; exact gotW_nil _, B1⟩
  by_cases h2 : (100 : Int) < back.length
  · have HE := Lib.hid (show wkE g r back day L = 4 by rw [HE0.out, if_pos h, if_neg (by omega)])
    go_wp2
    go_ret2
    exact ⟨_, by rw [HE.out]; rfl, by rw [HE.out]; exact gotW_nil _, B1⟩
  by_cases h3 : L.length = (endN r r.length).length
  rotate_left
  · have HE := Lib.hid (show wkE g r back day L = 9 by rw [HE0.out, if_pos h, if_pos (by omega), if_neg h3])
    have h4 : ((L.length : Int) != ((endZ r).length : Int)) = true := by rw [HEL.out]; simp; omega
    generalize endZ r = E at *
    clear h3
    go_wp2_with (go_at_call 61; ((with_reducible refine (H2.out _ B1).mono ?_); rintro e w2 ⟨v, rfl, hv, hb2⟩; obtain ⟨A2, c2, rfl, _⟩ := own_ints hv))
    go_ret2
    exact ⟨_, by rw [HE.out]; rfl, by rw [HE.out]; exact gotW_nil _, below_tr B1 hb2⟩
  have h4 : ((L.length : Int) != ((endZ r).length : Int)) = false := by rw [HEL.out]; simp; omega
  generalize endZ r = E at *
  cases h5 : wn day 0 100000
  · have HE := Lib.hid (show wkE g r back day L = 7 by rw [HE0.out, if_pos h, if_pos (by omega), if_pos h3, if_neg (by simp [h5])])
    clear h3
    go_wp2_with (first
      | (go_at_call 61; ((with_reducible refine (H2.out _ B1).mono ?_); rintro e w2 ⟨v, rfl, hv, hb2⟩; obtain ⟨A2, c2, rfl, _⟩ := own_ints hv; have B2 := below_tr B1 hb2))
      | (go_at_call 57; ((with_reducible refine (r_withinV h5 _).mono ?_); rintro e w' ⟨rfl, rfl⟩)))
    go_ret2
    exact ⟨_, by rw [HE.out]; rfl, by rw [HE.out]; exact gotW_nil _, B2⟩
  have HE1 := Lib.hid (show wkE g r back day L = ldE r L by rw [HE0.out, if_pos h, if_pos (by omega), if_pos h3, if_pos h5])
  by_cases h6 : ldE r L = 0
  rotate_left
  · have h7 : (ldE r L != 0) = true := by simpa using h6
    have HN := Lib.hid h6
    generalize ldE r L = X at *
    clear h3 h6
    go_wp2_with (first
      | (go_at_call 61; ((with_reducible refine (H2.out _ B1).mono ?_); rintro e w2 ⟨v, rfl, hv, hb2⟩; obtain ⟨A2, c2, rfl, _⟩ := own_ints hv; have B2 := below_tr B1 hb2))
      | (go_at_call 57; ((with_reducible refine (r_withinV h5 _).mono ?_); rintro e w' ⟨rfl, rfl⟩))
      | (go_at_call 67; ((with_reducible refine (H3.out _ B2).mono ?_); rintro e w3 ⟨rfl, hb3⟩; obtain ⟨hc3, hf3⟩ := bcell hb3; have hz3 := hb3.size; (try simp [sz_drew, sz_drewN] at hz3); (try simp only [sz_drew, sz_drewN] at hc3 hf3))))
    go_ret2
    exact ⟨_, by rw [HE1.out]; rfl, by rw [HE1.out]; unfold onE; rw [if_neg HN.out]; exact gotW_nil _, below_tr B2 hb3⟩
  obtain ⟨h7, h8⟩ := ldE_z h6
  have hv := vr_of h
  have H4 := Lib.hid (fun W (hb : Below w.heap.size w W) => r_borne B D g r L d f W hv h8 h7 (hS.on hb) (hL.on hb))
  have HMF := Lib.hid (fun s W (h : Below w.heap.size w W) => r_find A g c s W hl (hR.on h))
  have HZL := Lib.hid (boZ_len hv h6)
  have HVV := Lib.hid hv
  have hn32 := hv.l1
  have hm0 := hv.l0
  have hlg := hv.lg
  have HBK := Lib.hid (fun k => show wkB g r back day L k = wkC day back (itR g (lkAt r k)) ((boZ r L).getD k 0) from rfl)
  have HWN := Lib.hid (fun k h => wkN_no (g := g) (r := r) (back := back) (day := day) (L := L) (k := k) h)
  have HWY := Lib.hid (fun k h => wkN_yes (g := g) (r := r) (back := back) (day := day) (L := L) (k := k) h)
  have HWL := Lib.hid (fun k => wkN_len g r back day L k)
  have HWZ := Lib.hid (show wkZ g r back day L = (wkN g r back day L r.length).map fun n : Nat => (n : Int) from rfl)
  obtain ⟨i0, hi, hi1, hi2, hi3⟩ := info_int2
  rw [h6] at H3 HE1
  generalize boZ r L = Z at *
  generalize wkB g r back day L = WB at *
  generalize wkN g r back day L = WN at *
  clear hv h3 h6 h7 h8
  go_wp2_with (first
    | (go_at_call 61; ((with_reducible refine (H2.out _ B1).mono ?_); rintro e w2 ⟨v, rfl, hv, hb2⟩; obtain ⟨A2, c2, rfl, _⟩ := own_ints hv; have B2 := below_tr B1 hb2))
    | (go_at_call 57; ((with_reducible refine (r_withinV h5 _).mono ?_); rintro e w' ⟨rfl, rfl⟩))
    | (go_at_call 67; ((with_reducible refine (H3.out _ B2).mono ?_); rintro e w3 ⟨rfl, hb3⟩; have B3 := below_tr B2 hb3))
    | (go_at_call 68; ((with_reducible refine (H4.out _ B3).mono ?_); rintro e w7 ⟨A5, c5, rfl, _, hr7, hb7⟩; have B7 := below_tr B3 hb7)))
  have B7s := B7.size
  go_loopw [14, 15] (fun v i wr => ∃ k : Nat, k ≤ r.length ∧ i = .int .i64 k ∧ Below w.heap.size w wr ∧ Below w7.heap.size w7 wr ∧ wr.ownsRow w7.heap.size 3 1 v (WN k).length (fl nC (WN k))) (fun _ i _ => r.length - (intOf i).toNat)
  case atStart => exact ⟨0, by omega, rfl, B7, below_refl _, by
    have h0 : WN 0 = [] := List.eq_nil_of_length_eq_zero (by have := HWL.out 0; omega)
    rw [h0]; exact World.ownsRow_nil w7 _ _ _⟩
  case round =>
    clear B7 B1 B2 B3 hb2 hb3 hb7 hv
    obtain ⟨k, hk, rfl, hbw, hbv, hown⟩ := hrel
    obtain ⟨ad, cp, rfl⟩ := own_slice hown
    have hlen := HWL.out k
    have hbvs := hbv.size
    by_cases hlt : k < r.length
    · have k0 : (0 : Int) ≤ (k : Int) := Int.natCast_nonneg _
      have k1 : (k : Int) < (r.length : Int) := by omega
      obtain ⟨x, b, off, hx, rfl, hb, q0, q1⟩ := rdL (hS.on hbw) hlt
      obtain ⟨hy, _⟩ := HVV.out.it hx
      have f1 := HVV.out.fnd k x hx
      have f2 := (fnd_bd g x.nm).2
      obtain ⟨y, yb, yo, hyy, e5, hyb, q2⟩ := rd_int (hr7.on hbv) (show k < Z.length by have := HZL.out; omega)
      cases e5
      have HWK : WB k = wkC day back (itR g x) y := by rw [HBK.out, lkAt_of hx, getD_of hyy]
      have HF := Lib.hid (HMF.out x.nm wr hbw)
      obtain ⟨n, hn'⟩ := Int.eq_ofNat_of_zero_le f1
      rw [hn'] at f2 hy HF
      obtain ⟨it, gb, goff, hz, hA, hgb, d0, d1, d2, d3⟩ := rdI (hR.on hbw) (show n < g.length by omega)
      rw [show ((n : Nat) : Int).toNat = n by omega, hz] at hy
      cases hy
      have n0' : (0 : Int) ≤ (n : Int) := Int.natCast_nonneg _
      have n1' : (n : Int) < (g.length : Int) := by omega
      have hk2 : (k : Int) < (Z.length : Int) := by have := HZL.out; omega
      have hybs : yb ≠ wr.heap.size := by omega
      subst hA
      generalize itR g x = I at *
      have HHQ := Lib.hid (fun b h n => r_HasQ (b := b) C back cb I.bt h (wr.alloc (.cells #[.string I.nm, .int .i64 I.ld, .int .i64 I.du, .string I.bt] 62)) n hbk (hC.on (bl_alloc hbw _)))
      have bA := bl_alloc hbw (.cells #[.string I.nm, .int .i64 I.ld, .int .i64 I.du, .string I.bt] 62)
      have vA := bl_alloc hbv (.cells #[.string I.nm, .int .i64 I.ld, .int .i64 I.du, .string I.bt] 62)
      have oA := own_on hown (below_alloc wr (.cells #[.string I.nm, .int .i64 I.ld, .int .i64 I.du, .string I.bt] 62))
      have x1 := Blk.new wr 62 #[.string I.nm, .int .i64 I.ld, .int .i64 I.du, .string I.bt]
      clear hx hz hn' hyy q1
      by_cases hD : I.du < day
      · have hT : WB k = true := by rw [HWK]; unfold wkC; simp [hD]
        clear HWK
        go_wp2_with (go_at_call 50; ((with_reducible refine (HF.out).mono ?_); rintro e w' ⟨rfl, rfl⟩))
        go_quiet ((go_at_call 79; with_reducible exact HHQ.out _ rfl _))
        have HST := Lib.hid (HWY.out k hT)
        have b3 := below_drewN bA nq
        have v3 := below_drewN vA nq
        have o3 := own_on oA (below_drewN (below_refl _) nq)
        generalize (wr.alloc (.cells #[.string I.nm, .int .i64 I.ld, .int .i64 I.du, .string I.bt] 62)).drewN nq = W3 at *
        go_wp2_with (at_builtin; refine wpList_append_own _ rfl _ _ 30 rfl w7.heap.size 3 i0 (.int .i64 0) 1 8 (by kernel_rfl) hi hi1 hi2 hi3 rfl (by omega) _ _ _ rfl (o3.alloc _) ⟨W3.heap.size, 0, none⟩ 1 1 [.int .i64 k] rfl rfl (cells_new W3 [.int .i64 k] 3) (fun u hu => by simp at hu; subst hu; rfl) (by unfold maxLen; omega) (by omega) (by simp; have := v3.size; omega) ?_; intro v' w9 hown9 hgrow _)
        go_roundw
        case rel => exact ⟨k + 1, by omega, by go_num, bl_app b3 o3 hgrow B7s b3.size, bl_app v3 o3 hgrow (Nat.le_refl _) v3.size, by rw [HST.out, fl_snoc, List.length_append]; exact hown9⟩
        case measure => simp [intOf]; omega
      · have hD' : decide (I.du < day) = false := decide_eq_false hD
        cases hh : hasB back I.bt
        · by_cases hY : I.ld < y
          · have hT : WB k = true := by rw [HWK]; unfold wkC; simp [hY]
            clear HWK
            go_wp2_with (go_at_call 50; ((with_reducible refine (HF.out).mono ?_); rintro e w' ⟨rfl, rfl⟩))
            go_quiet ((go_at_call 79; with_reducible exact HHQ.out _ hh _))
            have HST := Lib.hid (HWY.out k hT)
            have b3 := below_drewN bA nq
            have v3 := below_drewN vA nq
            have o3 := own_on oA (below_drewN (below_refl _) nq)
            generalize (wr.alloc (.cells #[.string I.nm, .int .i64 I.ld, .int .i64 I.du, .string I.bt] 62)).drewN nq = W3 at *
            go_wp2_with (at_builtin; refine wpList_append_own _ rfl _ _ 30 rfl w7.heap.size 3 i0 (.int .i64 0) 1 8 (by kernel_rfl) hi hi1 hi2 hi3 rfl (by omega) _ _ _ rfl (o3.alloc _) ⟨W3.heap.size, 0, none⟩ 1 1 [.int .i64 k] rfl rfl (cells_new W3 [.int .i64 k] 3) (fun u hu => by simp at hu; subst hu; rfl) (by unfold maxLen; omega) (by omega) (by simp; have := v3.size; omega) ?_; intro v' w9 hown9 hgrow _)
            go_roundw
            case rel => exact ⟨k + 1, by omega, by go_num, bl_app b3 o3 hgrow B7s b3.size, bl_app v3 o3 hgrow (Nat.le_refl _) v3.size, by rw [HST.out, fl_snoc, List.length_append]; exact hown9⟩
            case measure => simp [intOf]; omega
          · have hY' : decide (I.ld < y) = false := decide_eq_false hY
            have hT : WB k = false := by rw [HWK]; unfold wkC; simp [hD, hh, hY]
            have HST := Lib.hid (HWN.out k hT)
            clear HWK
            go_wp2_with (go_at_call 50; ((with_reducible refine (HF.out).mono ?_); rintro e w' ⟨rfl, rfl⟩))
            go_quiet ((go_at_call 79; with_reducible exact HHQ.out _ hh _))
            go_wp2
            go_roundw
            case rel => exact ⟨k + 1, by omega, by go_num, below_drewN bA nq, below_drewN vA nq, by rw [HST.out]; exact own_on oA (below_drewN (below_refl _) nq)⟩
            case measure => simp [intOf]; omega
        · have hT : WB k = true := by rw [HWK]; unfold wkC; simp [hh]
          clear HWK
          go_wp2_with (go_at_call 50; ((with_reducible refine (HF.out).mono ?_); rintro e w' ⟨rfl, rfl⟩))
          go_quiet ((go_at_call 79; with_reducible exact HHQ.out _ hh _))
          have HST := Lib.hid (HWY.out k hT)
          have b3 := below_drewN bA nq
          have v3 := below_drewN vA nq
          have o3 := own_on oA (below_drewN (below_refl _) nq)
          generalize (wr.alloc (.cells #[.string I.nm, .int .i64 I.ld, .int .i64 I.du, .string I.bt] 62)).drewN nq = W3 at *
          go_wp2_with (at_builtin; refine wpList_append_own _ rfl _ _ 30 rfl w7.heap.size 3 i0 (.int .i64 0) 1 8 (by kernel_rfl) hi hi1 hi2 hi3 rfl (by omega) _ _ _ rfl (o3.alloc _) ⟨W3.heap.size, 0, none⟩ 1 1 [.int .i64 k] rfl rfl (cells_new W3 [.int .i64 k] 3) (fun u hu => by simp at hu; subst hu; rfl) (by unfold maxLen; omega) (by omega) (by simp; have := v3.size; omega) ?_; intro v' w9 hown9 hgrow _)
          go_roundw
          case rel => exact ⟨k + 1, by omega, by go_num, bl_app b3 o3 hgrow B7s b3.size, bl_app v3 o3 hgrow (Nat.le_refl _) v3.size, by rw [HST.out, fl_snoc, List.length_append]; exact hown9⟩
          case measure => simp [intOf]; omega
    · obtain rfl : k = r.length := by omega
      have hown' := nz_own (own_base hown B7s)
      have hlen' : (WN r.length).length = (wkZ g r back day L).length := by rw [HWZ.out, List.length_map]
      rw [← HWZ.out, hlen'] at hown'
      obtain ⟨A9, c9, hA9, hr9⟩ := own_ints hown'
      cases hA9
      rw [hlen']
      go_wp2
      go_ret2
      exact ⟨_, by rw [HE1.out]; rfl, by rw [HE1.out]; exact ⟨_, _, rfl, hr9⟩, hbw⟩
end Go.Proofs.Ytijlglanpgcdiaa
