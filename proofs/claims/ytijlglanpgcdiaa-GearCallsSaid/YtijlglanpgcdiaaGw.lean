/- Gear: Until by both. -/
import Derived.Test.YtijlglanpgcdiaaGu
set_option linter.unusedSimpArgs false
set_option linter.unusedVariables false
namespace Go.Proofs.Ytijlglanpgcdiaa
open Go.RowKit Go.Maps

/-- the least day of the first k links' items -/
def unN (g : List It) (r : List Lk) : Nat → Int
  | 0 => 100000
  | k + 1 => if (itR g (lkAt r k)).du < unN g r k then (itR g (lkAt r k)).du else unN g r k
def unI (g : List It) (r : List Lk) : Int := if shE g r = 0 then unN g r r.length else 0
set_option maxHeartbeats 1000000 in
set_option maxRecDepth 20000 in
theorem p_Until (A B : Option Addr) (g : List It) (r : List Lk) (c d : Nat) (w : World) (hl : g.length ≤ 100000) (hn : r.length ≤ 100000) (hR : Rd It.cs 4 w A g) (hW : ∀ x ∈ g, IW x) (hS : Rd Lk.cs 2 w B r) (hV : ∀ x ∈ r, LW x) :
    Calls Try.prog 31 #[.slice A g.length c, .slice B r.length d] w fun e w' => e = .returned (.tuple #[.int .i64 (unI g r), .int .i64 (shE g r)]) ∧ Below w.heap.size w w' := by
  have H1 := Lib.hid (fun b h => p_ValidRigV (c := c) (d := d) (b := b) h hl hn hR hW hS hV)
  have HM := Lib.hid (fun W (h : Below w.heap.size w W) => p_byMark A g c W hl (hR.on h) hW)
  cases h : (vldG g && vldR g r)
  · have HE := Lib.hid (show shE g r = 1 by unfold shE; rw [if_neg (by simp [h])])
    have HI := Lib.hid (show unI g r = 0 by unfold unI; rw [HE.out]; rfl)
    go_enter Try.func31, Try.ntmps31
    go_wp2_with (go_at_call 17; ((with_reducible refine (H1.out _ h).mono ?_); rintro e w1 ⟨rfl, hb1⟩; obtain ⟨hc1, hf1⟩ := bcell hb1; have hz1 := hb1.size; (try simp [sz_drew, sz_drewN] at hz1); (try simp only [sz_drew, sz_drewN] at hc1 hf1)))
    go_ret2
    exact ⟨by rw [HE.out, HI.out]; rfl, by (repeat' (first | assumption | exact below_refl _ | refine bl_alloc ?_ _ | refine Below.setCell ?_ ?_ _ | refine below_draw ?_ | refine below_drewN ?_ _ | refine below_tr ?_ (by assumption))) <;> (first | omega | (simp; done) | (simp; omega))⟩
  have hv := vr_of h
  have HVV := Lib.hid hv
  have HMA := Lib.hid (fun s => mkD_at (vldG_dst hv.vg) s g.length (Nat.le_refl _))
  have HE := Lib.hid (show shE g r = 0 by unfold shE; rw [if_pos h])
  have HI := Lib.hid (show unI g r = unN g r r.length by unfold unI; rw [if_pos HE.out])
  clear hv
  go_enter Try.func31, Try.ntmps31
  go_wp2_with (first
    | (go_at_call 17; ((with_reducible refine (H1.out _ h).mono ?_); rintro e w1 ⟨rfl, hb1⟩; obtain ⟨hc1, hf1⟩ := bcell hb1; have hz1 := hb1.size; (try simp [sz_drew, sz_drewN] at hz1); (try simp only [sz_drew, sz_drewN] at hc1 hf1)))
    | (go_at_call 49; refine (HM.out _ hb1).mono ?_; rintro e w2 ⟨rfl, hom, hb2⟩; have B2 := below_tr hb1 hb2))
  go_loopw [7, 18] (fun m i wr => ∃ k : Nat, k ≤ r.length ∧ i = .int .i64 k ∧ m = .int .i64 (unN g r k) ∧ Below w.heap.size w wr ∧ OM wr w1.heap.size g.length (mkD g g.length)) (fun _ i _ => r.length - (intOf i).toNat)
  case atStart => exact ⟨0, by omega, rfl, rfl, B2, hom⟩
  case round =>
    clear hom hb2 B2
    obtain ⟨k, hk, rfl, rfl, hbw, hom⟩ := hrel
    by_cases hlt : k < r.length
    · have k0 : (0 : Int) ≤ (k : Int) := Int.natCast_nonneg _
      have k1 : (k : Int) < (r.length : Int) := by omega
      obtain ⟨x, b, off, hx, rfl, hb, c0, c1⟩ := rdL (hS.on hbw) hlt
      have iw := hV x (List.mem_of_getElem? hx)
      have iw1 := iw.f0
      have iw2 := iw.f1
      have hkey := keyS iw.m
      obtain ⟨hy, _⟩ := HVV.out.it hx
      have f1 := HVV.out.fnd k x hx
      have f2 := (fnd_bd g x.nm).2
      have HA := HMA.out x.nm
      rw [if_pos (by omega)] at HA
      have HST := Lib.hid (show unN g r (k + 1) = if (itR g x).du < unN g r k then (itR g x).du else unN g r k by rw [unN, lkAt_of hx])
      obtain ⟨n, hn'⟩ := Int.eq_ofNat_of_zero_le f1
      rw [hn'] at f2 HA hy
      obtain ⟨it, gb, goff, hz, hA, hgb, d0, d1, d2, d3⟩ := rdI (hR.on hbw) (show n < g.length by omega)
      rw [show ((n : Nat) : Int).toNat = n by omega, hz] at hy
      cases hy
      have HAA := Lib.hid HA
      have n0 : (0 : Int) ≤ (n : Int) := Int.natCast_nonneg _
      have hom' := hom.alloc (Obj.cells #[Value.string x.nm, Value.int IntKind.i64 x.fr] 41)
      have hne : gb ≠ wr.heap.size := by omega
      have hbl := bl_alloc hbw (Obj.cells #[Value.string x.nm, Value.int IntKind.i64 x.fr] 41)
      subst hA
      clear hx iw hz HA hom hn' d1 d3
      go_wp2_with (at_lookup; refine wpList_lookup_own_int _ rfl _ _ 64 rfl 9 3 .i64 lawS und_map und_int (zeroN _) _ g.length _ rfl hom' _ _ rfl hkey ?_; intro cc hat hwc; rw [HAA.out] at hat; obtain rfl : (n : Int) = cc := by (cases hat; rfl))
      go_roundw
      case rel => exact ⟨k + 1, by omega, by go_num, by rw [HST.out], hbl, hom'⟩
      case measure => simp [intOf]; omega
    · obtain rfl : k = r.length := by omega
      go_wp2
      go_ret2
      exact ⟨by rw [HE.out, HI.out]; rfl, hbw⟩
set_option maxHeartbeats 1000000 in
set_option maxRecDepth 20000 in
theorem r_Until (A B : Option Addr) (g : List It) (r : List Lk) (c d : Nat) (w : World) (hl : g.length ≤ 100000) (hn : r.length ≤ 100000) (hR : Rd It.cs 4 w A g) (hW : ∀ x ∈ g, IW x) (hS : Rd Lk.cs 2 w B r) (hV : ∀ x ∈ r, LW x) :
    Calls Try.prog 32 #[.slice A g.length c, .slice B r.length d] w fun e w' => e = .returned (.tuple #[.int .i64 (unI g r), .int .i64 (shE g r)]) ∧ Below w.heap.size w w' := by
  have H1 := Lib.hid (fun b h => r_ValidRigV (c := c) (d := d) (b := b) h hl hn hR hW hS hV)
  have HM := Lib.hid (fun s W (h : Below w.heap.size w W) => r_find A g c s W hl (hR.on h))
  cases h : (vldG g && vldR g r)
  · have HE := Lib.hid (show shE g r = 1 by unfold shE; rw [if_neg (by simp [h])])
    have HI := Lib.hid (show unI g r = 0 by unfold unI; rw [HE.out]; rfl)
    go_enter Try.func32, Try.ntmps32
    go_wp2_with (go_at_call 18; ((with_reducible refine (H1.out _ h).mono ?_); rintro e w1 ⟨rfl, hb1⟩; obtain ⟨hc1, hf1⟩ := bcell hb1; have hz1 := hb1.size; (try simp [sz_drew, sz_drewN] at hz1); (try simp only [sz_drew, sz_drewN] at hc1 hf1)))
    go_ret2
    exact ⟨by rw [HE.out, HI.out]; rfl, by (repeat' (first | assumption | exact below_refl _ | refine bl_alloc ?_ _ | refine Below.setCell ?_ ?_ _ | refine below_draw ?_ | refine below_drewN ?_ _ | refine below_tr ?_ (by assumption))) <;> (first | omega | (simp; done) | (simp; omega))⟩
  have HVV := Lib.hid (vr_of h)
  have HE := Lib.hid (show shE g r = 0 by unfold shE; rw [if_pos h])
  have HI := Lib.hid (show unI g r = unN g r r.length by unfold unI; rw [if_pos HE.out])
  go_enter Try.func32, Try.ntmps32
  go_wp2_with (go_at_call 18; ((with_reducible refine (H1.out _ h).mono ?_); rintro e w1 ⟨rfl, hb1⟩; obtain ⟨hc1, hf1⟩ := bcell hb1; have hz1 := hb1.size; (try simp [sz_drew, sz_drewN] at hz1); (try simp only [sz_drew, sz_drewN] at hc1 hf1)))
  have hR1 := hR.on hb1
  have hS1 := hS.on hb1
  clear hc1 hf1 hz1
  go_loop [6, 7] (fun m i => ∃ k : Nat, k ≤ r.length ∧ i = .int .i64 k ∧ m = .int .i64 (unN g r k)) (fun _ i => r.length - (intOf i).toNat)
  case atStart => exact ⟨0, by omega, rfl, rfl⟩
  case round =>
    obtain ⟨k, hk, rfl, rfl⟩ := hrel
    by_cases hlt : k < r.length
    · have k0 : (0 : Int) ≤ (k : Int) := Int.natCast_nonneg _
      have k1 : (k : Int) < (r.length : Int) := by omega
      obtain ⟨x, b, off, hx, rfl, hb, c0, c1⟩ := rdL hS1 hlt
      obtain ⟨hy, _⟩ := HVV.out.it hx
      have f1 := HVV.out.fnd k x hx
      have f2 := (fnd_bd g x.nm).2
      have HST := Lib.hid (show unN g r (k + 1) = if (itR g x).du < unN g r k then (itR g x).du else unN g r k by rw [unN, lkAt_of hx])
      have HF := Lib.hid (HM.out x.nm w1 hb1)
      obtain ⟨n, hn'⟩ := Int.eq_ofNat_of_zero_le f1
      rw [hn'] at f2 hy HF
      obtain ⟨it, gb, goff, hz, hA, hgb, d0, d1, d2, d3⟩ := rdI hR1 (show n < g.length by omega)
      rw [show ((n : Nat) : Int).toNat = n by omega, hz] at hy
      cases hy
      have n0 : (0 : Int) ≤ (n : Int) := Int.natCast_nonneg _
      subst hA
      generalize (itR g x).du = D at *
      generalize unN g r k = U at *
      clear hx hz hn' d1 d3
      by_cases hD : D < U
      · go_wp2_with (go_at_call 50; ((with_reducible refine (HF.out).mono ?_); rintro e w' ⟨rfl, rfl⟩))
        go_round
        case rel => exact ⟨k + 1, by omega, by go_num, by rw [HST.out, if_pos hD]⟩
        case measure => simp [intOf]; omega
      · go_wp2_with (go_at_call 50; ((with_reducible refine (HF.out).mono ?_); rintro e w' ⟨rfl, rfl⟩))
        go_round
        case rel => exact ⟨k + 1, by omega, by go_num, by rw [HST.out, if_neg (by omega)]⟩
        case measure => simp [intOf]; omega
    · obtain rfl : k = r.length := by omega
      go_wp2
      go_ret2
      exact ⟨by rw [HE.out, HI.out]; rfl, hb1⟩
end Go.Proofs.Ytijlglanpgcdiaa
