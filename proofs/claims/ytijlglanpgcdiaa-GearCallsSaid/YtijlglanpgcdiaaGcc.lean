/- Gear: Touched by both. -/
import Derived.Test.YtijlglanpgcdiaaGcb
set_option linter.unusedSimpArgs false
set_option linter.unusedVariables false
namespace Go.Proofs.Ytijlglanpgcdiaa
open Go.RowKit Go.Maps

set_option maxHeartbeats 4000000 in
set_option maxRecDepth 20000 in
theorem p_Touched (A B : Option Addr) (g : List It) (R : List Rg) (s : ByteArray) (c d : Nat) (w : World) (hl : g.length ≤ 100000) (hr : R.length ≤ 100000) (hR : Rd It.cs 4 w A g) (hW : ∀ x ∈ g, IW x) (hB : Rd Rg.cs 1 w B R) (hO : RgS w R) :
    Calls Try.prog 46 #[.slice A g.length c, .slice B R.length d, .string s] w fun e w' => ∃ v, e = .returned (.tuple #[v, .int .i64 (svE g R)]) ∧ GotW w' v (tcZ g R s) ∧ Below w.heap.size w w' := by
  have H1 := Lib.hid (fun W (hb : Below w.heap.size w W) => p_several A B g R c d W hl hr (hR.on hb) hW (hB.on hb) (hO.on hb))
  have H2 := Lib.hid (fun W (hb : Below w.heap.size w W) => p_byMark A g c W hl (hR.on hb) hW)
  have HZ0 := Lib.hid (show tcZ g R s = if svE g R = 0 then fZ (tcB g R s) R.length else [] from rfl)
  have HSV := Lib.hid (fun h => sv_z (g := g) (R := R) h)
  have HN := Lib.hid (fun k h => fN_no (p := tcB g R s) (k := k) h)
  have HY := Lib.hid (fun k h => fN_yes (p := tcB g R s) (k := k) h)
  have HLn := Lib.hid (fun k => fN_len (tcB g R s) k)
  obtain ⟨i0, hi, hi1, hi2, hi3⟩ := info_int2
  go_enter Try.func46, Try.ntmps46
  go_wp2_with fail
  have k0 := (Blk.new w 22 #[.slice A g.length c]).alloc (.cells #[.string s] 9)
  have k1 := Blk.new (w.alloc (.cells #[.slice A g.length c] 22)) 9 #[.string s]
  have B0 : Below w.heap.size w ((w.alloc (.cells #[.slice A g.length c] 22)).alloc (.cells #[.string s] 9)) := bl_alloc (bl_alloc (below_refl _) _) _
  simp only [World.size_alloc] at k1
  generalize (w.alloc (.cells #[.slice A g.length c] 22)).alloc (.cells #[.string s] 9) = W0 at *
  refine (H1.out _ B0).mono ?_
  rintro e w1 ⟨rfl, hb1⟩
  have B1 := below_tr B0 hb1
  have j0 := k0.below hb1 k0.lt
  have j1 := k1.below hb1 k1.lt
  have c0 : w1.cell? ⟨w.heap.size, 0, none⟩ = some (.slice A g.length c) := j0.cell 0
  clear hb1 k0 k1 B0
  by_cases hE : svE g R = 0
  rotate_left
  · have hE' : (svE g R != 0) = true := by simpa using hE
    have HZ := Lib.hid (show tcZ g R s = [] by rw [HZ0.out, if_neg hE])
    clear hE
    go_wp2
    go_ret2
    exact ⟨_, rfl, by rw [HZ.out]; exact gotW_nil _, B1⟩
  have HZ := Lib.hid (show tcZ g R s = fZ (tcB g R s) R.length by rw [HZ0.out, if_pos hE])
  obtain ⟨_, _, hvr⟩ := HSV.out hE
  have HVR := Lib.hid hvr
  have HEE := Lib.hid hE
  rw [hE]
  clear hvr hE
  go_wp2_with (go_at_call 49; refine (H2.out _ B1).mono ?_; rintro e w2 ⟨rfl, hom2, hb2⟩)
  have B2 := bl_alloc (below_tr B1 hb2) (.cells #[.map (some w1.heap.size)] 64)
  have l0 := (j0.below hb2 j0.lt).alloc (.cells #[.map (some w1.heap.size)] 64)
  have l1 := (j1.below hb2 j1.lt).alloc (.cells #[.map (some w1.heap.size)] 64)
  have l2 := Blk.new w2 64 #[.map (some w1.heap.size)]
  have hom := hom2.alloc (.cells #[.map (some w1.heap.size)] 64)
  generalize w2.heap.size = bP at *
  generalize w1.heap.size = bm at *
  generalize w2.alloc (.cells #[.map (some bm)] 64) = w3 at *
  clear hb2 B1 j0 j1 c0 hom2
  have B2s := B2.size
  go_loopw [10, 23] (fun v i wr => ∃ k : Nat, k ≤ R.length ∧ i = .int .i64 k ∧ Below w.heap.size w wr ∧ Below w3.heap.size w3 wr ∧ wr.ownsRow w3.heap.size 3 1 v (fN (tcB g R s) k).length (fl nC (fN (tcB g R s) k))) (fun _ i _ => R.length - (intOf i).toNat)
  case atStart => exact ⟨0, by omega, rfl, B2, below_refl _, World.ownsRow_nil w3 _ _ _⟩
  case round =>
    clear B2
    obtain ⟨k, hk, rfl, hbw, hbv, hown⟩ := hrel
    obtain ⟨ad, cp, rfl⟩ := own_slice hown
    have hlen := HLn.out k
    have hbvs := hbv.size
    by_cases hlt : k < R.length
    · have kk0 : (0 : Int) ≤ (k : Int) := Int.natCast_nonneg _
      have kk1 : (k : Int) < (R.length : Int) := by omega
      obtain ⟨x, b, off, hx, rfl, hb, q0⟩ := rdG (hB.on hbw) hlt
      have hm := List.mem_of_getElem? hx
      have hv := HVR.out x hm
      have hok := (hO x hm).1
      have hcb : tcB g R s k = x.l.any (tcP g s) := by unfold tcB; rw [rgAt_of hx]
      have HC := Lib.hid (c_containsL x.a x.l x.c (tcP g s) 82 #[.pointer (some ⟨w.heap.size, 0, none⟩), .pointer (some ⟨bP, 0, none⟩), .pointer (some ⟨w.heap.size + 1, 0, none⟩)] wr (by have := hv.l1; omega) (hok.rd.on hbw) (fun _ _ => rfl) (fun V y hV' hy => by
        obtain ⟨j, hj⟩ := List.getElem?_of_mem hy
        have hb3 := below_tr hbv hV'
        exact p_Touched1 y j x.l A g c w.heap.size bP (w.heap.size + 1) bm s V hv hj (hok.lw y hy) ((hR.on hbw).on hV') (l0.below hb3 l0.lt) (l2.below hb3 l2.lt) (l1.below hb3 l1.lt) (hom.kept (bl_grownBy hb3 none) (by simp))))
      rw [← hcb] at HC
      clear hx hv hok hcb
      cases he : tcB g R s k
      · rw [he] at HC
        have HST := Lib.hid (HN.out k he)
        go_wp2_with (go_at_call 62; refine HC.out.mono ?_; rintro e w8 ⟨rfl, hb8⟩)
        go_roundw
        case rel => exact ⟨k + 1, by omega, by go_num, below_tr hbw hb8, below_tr hbv hb8, by rw [HST.out]; exact own_on hown hb8⟩
        case measure => simp [intOf]; omega
      · rw [he] at HC
        have HST := Lib.hid (HY.out k he)
        go_wp2_with (first
          | (go_at_call 62; refine HC.out.mono ?_; rintro e w8 ⟨rfl, hb8⟩; have own8 := own_on hown hb8; have b8 := below_tr hbw hb8; have v8 := below_tr hbv hb8)
          | (at_builtin; refine wpList_append_own _ rfl _ _ 30 rfl w3.heap.size 3 i0 (.int .i64 0) 1 8 (by kernel_rfl) hi hi1 hi2 hi3 rfl (by omega) _ _ _ rfl (own8.alloc _) ⟨w8.heap.size, 0, none⟩ 1 1 [.int .i64 k] rfl rfl (cells_new w8 [.int .i64 k] 3) (fun u hu => by simp at hu; subst hu; rfl) (by unfold maxLen; omega) (by omega) (by simp; have := v8.size; omega) ?_; intro v' w9 hown9 hgrow _))
        go_roundw
        case rel => exact ⟨k + 1, by omega, by go_num, bl_app b8 own8 hgrow B2s b8.size, bl_app v8 own8 hgrow (Nat.le_refl _) v8.size, by rw [HST.out, fl_snoc, List.length_append]; exact hown9⟩
        case measure => simp [intOf]; omega
    · obtain rfl : k = R.length := by omega
      go_wp2
      go_ret2
      exact ⟨_, by rw [HEE.out]; rfl, by rw [HZ.out]; exact got_fN hown, hbw⟩
set_option maxHeartbeats 4000000 in
set_option maxRecDepth 20000 in
theorem r_Touched (A B : Option Addr) (g : List It) (R : List Rg) (s : ByteArray) (c d : Nat) (w : World) (hl : g.length ≤ 100000) (hr : R.length ≤ 100000) (hR : Rd It.cs 4 w A g) (hW : ∀ x ∈ g, IW x) (hB : Rd Rg.cs 1 w B R) (hO : RgS w R) :
    Calls Try.prog 47 #[.slice A g.length c, .slice B R.length d, .string s] w fun e w' => ∃ v, e = .returned (.tuple #[v, .int .i64 (svE g R)]) ∧ GotW w' v (tcZ g R s) ∧ Below w.heap.size w w' := by
  have H1 := Lib.hid (r_many A B g R c d w hl hr hR hW hB hO)
  have HMF := Lib.hid (fun s W (h : Below w.heap.size w W) => r_find A g c s W hl (hR.on h))
  have HZ0 := Lib.hid (show tcZ g R s = if svE g R = 0 then fZ (tcB g R s) R.length else [] from rfl)
  have HSV := Lib.hid (fun h => sv_z (g := g) (R := R) h)
  have HN := Lib.hid (fun k h => fN_no (p := tcB g R s) (k := k) h)
  have HY := Lib.hid (fun k h => fN_yes (p := tcB g R s) (k := k) h)
  have HLn := Lib.hid (fun k => fN_len (tcB g R s) k)
  obtain ⟨i0, hi, hi1, hi2, hi3⟩ := info_int2
  by_cases hE : svE g R = 0
  rotate_left
  · have hE' : (svE g R != 0) = true := by simpa using hE
    have HZ := Lib.hid (show tcZ g R s = [] by rw [HZ0.out, if_neg hE])
    clear hE
    go_enter Try.func47, Try.ntmps47
    go_wp2_with (go_at_call 81; ((with_reducible refine (H1.out).mono ?_); rintro e w1 ⟨rfl, hb1⟩; obtain ⟨hc1, hf1⟩ := bcell hb1; have hz1 := hb1.size; (try simp [sz_drew, sz_drewN] at hz1); (try simp only [sz_drew, sz_drewN] at hc1 hf1)))
    go_ret2
    exact ⟨_, rfl, by rw [HZ.out]; exact gotW_nil _, hb1⟩
  have HZ := Lib.hid (show tcZ g R s = fZ (tcB g R s) R.length by rw [HZ0.out, if_pos hE])
  obtain ⟨_, _, hvr⟩ := HSV.out hE
  have HVR := Lib.hid hvr
  rw [hE] at H1 ⊢
  clear hvr hE
  go_enter Try.func47, Try.ntmps47
  go_wp2_with (go_at_call 81; ((with_reducible refine (H1.out).mono ?_); rintro e w1 ⟨rfl, hb1⟩; obtain ⟨hc1, hf1⟩ := bcell hb1; have hz1 := hb1.size; (try simp [sz_drew, sz_drewN] at hz1); (try simp only [sz_drew, sz_drewN] at hc1 hf1)))
  have B1s := hb1.size
  go_loopw [9, 10] (fun v i wr => ∃ k : Nat, k ≤ R.length ∧ i = .int .i64 k ∧ Below w.heap.size w wr ∧ Below w1.heap.size w1 wr ∧ wr.ownsRow w1.heap.size 3 1 v (fN (tcB g R s) k).length (fl nC (fN (tcB g R s) k))) (fun _ i _ => R.length - (intOf i).toNat)
  case atStart => exact ⟨0, by omega, rfl, hb1, below_refl _, World.ownsRow_nil w1 _ _ _⟩
  case round =>
    clear hb1 hc1 hf1 hz1
    obtain ⟨k, hk, rfl, hbw, hbv, hown⟩ := hrel
    obtain ⟨ad, cp, rfl⟩ := own_slice hown
    have hlen := HLn.out k
    have hbvs := hbv.size
    by_cases hlt : k < R.length
    · have kk0 : (0 : Int) ≤ (k : Int) := Int.natCast_nonneg _
      have kk1 : (k : Int) < (R.length : Int) := by omega
      obtain ⟨x, b, off, hx, rfl, hb, q0⟩ := rdG (hB.on hbw) hlt
      have hm := List.mem_of_getElem? hx
      have HVX := Lib.hid (HVR.out x hm)
      have hok := (hO x hm).1
      have HOK := Lib.hid (hok.rd.on hbw)
      have hxl := (HVR.out x hm).l1
      have hcb : tcB g R s k = x.l.any (tcP g s) := by unfold tcB; rw [rgAt_of hx]
      have HCB := Lib.hid hcb
      clear hx hok hcb
      go_wp2
      go_loop [11, 12] (fun t i => ∃ j : Nat, j ≤ x.l.length ∧ i = .int .i64 j ∧ t = .bool ((x.l.take j).any (tcP g s))) (fun _ i => x.l.length - (intOf i).toNat)
      case atStart => exact ⟨0, by omega, rfl, rfl⟩
      case round =>
        obtain ⟨j, hj, rfl, rfl⟩ := hrel
        have j0 : (0 : Int) ≤ (j : Int) := Int.natCast_nonneg _
        by_cases hjl : j < x.l.length
        · have j1 : (j : Int) < (x.l.length : Int) := by omega
          obtain ⟨y, yb, yo, hy, e5, hyb, r0, r1⟩ := rdL HOK.out hjl
          have HST := Lib.hid (show (x.l.take (j + 1)).any (tcP g s) = ((x.l.take j).any (tcP g s) || tcP g s y) by rw [List.take_add_one, hy, List.any_append]; simp)
          rw [e5] at q0
          cases ht : (x.l.take j).any (tcP g s)
          · have HT := Lib.hid ht
            obtain ⟨hyy, _⟩ := HVX.out.it hy
            have f1 := HVX.out.fnd j y hy
            have f2 := (fnd_bd g y.nm).2
            have HF := Lib.hid (HMF.out y.nm wr hbw)
            have hT : tcP g s y = ((itR g y).bt.toList == s.toList) := rfl
            obtain ⟨n, hn'⟩ := Int.eq_ofNat_of_zero_le f1
            rw [hn'] at f2 hyy HF
            obtain ⟨it, gb, goff, hz, hA, hgb, d0, d1, d2, d3⟩ := rdI (hR.on hbw) (show n < g.length by omega)
            rw [show ((n : Nat) : Int).toNat = n by omega, hz] at hyy
            cases hyy
            have n0 : (0 : Int) ≤ (n : Int) := Int.natCast_nonneg _
            have n1 : (n : Int) < (g.length : Int) := by omega
            subst hA
            generalize itR g y = I at *
            have HTT := Lib.hid hT
            clear hy hz hn' hT ht d0 d1 d2
            go_wp2_with (go_at_call 50; ((with_reducible refine (HF.out).mono ?_); rintro e w' ⟨rfl, rfl⟩))
            go_round
            case rel => exact ⟨j + 1, by omega, by go_num, by rw [HST.out, HT.out, HTT.out]; rfl⟩
            case measure => simp [intOf]; omega
          · have HT := Lib.hid ht
            clear ht hy
            go_wp2
            go_round
            case rel => exact ⟨j + 1, by omega, by go_num, by rw [HST.out, HT.out]; rfl⟩
            case measure => simp [intOf]; omega
        · obtain rfl : j = x.l.length := by omega
          rw [List.take_length, ← HCB.out]
          cases he : tcB g R s k
          · have HST := Lib.hid (HN.out k he)
            go_wp2
            go_roundw
            case rel => exact ⟨k + 1, by omega, by go_num, hbw, hbv, by rw [HST.out]; exact hown⟩
            case measure => simp [intOf]; omega
          · have HST := Lib.hid (HY.out k he)
            go_wp2_with (at_builtin; refine wpList_append_own _ rfl _ _ 30 rfl w1.heap.size 3 i0 (.int .i64 0) 1 8 (by kernel_rfl) hi hi1 hi2 hi3 rfl (by omega) _ _ _ rfl (hown.alloc _) ⟨wr.heap.size, 0, none⟩ 1 1 [.int .i64 k] rfl rfl (cells_new wr [.int .i64 k] 3) (fun u hu => by simp at hu; subst hu; rfl) (by unfold maxLen; omega) (by omega) (by simp; have := hbv.size; omega) ?_; intro v' w9 hown9 hgrow _)
            go_roundw
            case rel => exact ⟨k + 1, by omega, by go_num, bl_app hbw hown hgrow B1s hbw.size, bl_app hbv hown hgrow (Nat.le_refl _) hbv.size, by rw [HST.out, fl_snoc, List.length_append]; exact hown9⟩
            case measure => simp [intOf]; omega
    · obtain rfl : k = R.length := by omega
      go_wp2
      go_ret2
      exact ⟨_, rfl, by rw [HZ.out]; exact got_fN hown, hbw⟩
end Go.Proofs.Ytijlglanpgcdiaa
