/- Gear: Most by the reference. -/
import Derived.Test.YtijlglanpgcdiaaGw
set_option linter.unusedSimpArgs false
set_option linter.unusedVariables false
namespace Go.Proofs.Ytijlglanpgcdiaa
open Go.RowKit Go.Maps

theorem upZ_low {g : List It} {r : List Lk} (hv : VR g r) {n : Nat} (hn : n < r.length) : upZ r (ldL g r) n = lowC (ldL g r) 1000000 (chn r (n : Int)) := by
  obtain ⟨x, hx⟩ := get_lt hn
  have hl : (ldL g r)[n]? = some (itR g x).ld := by unfold ldL; rw [List.getElem?_map, hx]; rfl
  have hb := hv.ld hl
  have e : lowC (ldL g r) 1000000 (chn r (n : Int)) = lowC (ldL g r) (if (ldL g r).getD n 0 < 1000000 then (ldL g r).getD n 0 else 1000000) (chn r x.fr) := by
    rw [chn_step hv hx]; rfl
  rw [e]
  unfold upZ
  rw [lkAt_of hx, getD_of hl]
  congr 1
  split <;> omega
theorem isE_take (r : List Lk) (n : Int) : isE r n = !(r.any fun x => x.fr == n) := rfl
set_option maxHeartbeats 2000000 in
set_option maxRecDepth 20000 in
theorem r_Most (A B : Option Addr) (g : List It) (r : List Lk) (c d : Nat) (n : Int) (w : World) (hl : g.length ≤ 100000) (hn : r.length ≤ 100000) (hR : Rd It.cs 4 w A g) (hW : ∀ x ∈ g, IW x) (hS : Rd Lk.cs 2 w B r) (hV : ∀ x ∈ r, LW x) :
    Calls Try.prog 30 #[.slice A g.length c, .slice B r.length d, .int .i64 n] w fun e w' => e = .returned (.tuple #[.int .i64 (mtI g r n), .int .i64 (mtE g r n)]) ∧ Below w.heap.size w w' := by
  have H1 := Lib.hid (fun b h => r_ValidRigV (c := c) (d := d) (b := b) h hl hn hR hW hS hV)
  have HM := Lib.hid (fun s W (h : Below w.heap.size w W) => r_find A g c s W hl (hR.on h))
  cases h : (vldG g && vldR g r)
  · have HE := Lib.hid (show mtE g r n = 1 by unfold mtE; rw [if_neg (by simp [h])])
    have HI := Lib.hid (show mtI g r n = 0 by unfold mtI; rw [HE.out]; rfl)
    go_enter Try.func30, Try.ntmps30
    go_wp2_with (go_at_call 18; ((with_reducible refine (H1.out _ h).mono ?_); rintro e w1 ⟨rfl, hb1⟩; obtain ⟨hc1, hf1⟩ := bcell hb1; have hz1 := hb1.size; (try simp [sz_drew, sz_drewN] at hz1); (try simp only [sz_drew, sz_drewN] at hc1 hf1)))
    go_ret2
    exact ⟨by rw [HE.out, HI.out]; rfl, by (repeat' (first | assumption | exact below_refl _ | refine bl_alloc ?_ _ | refine Below.setCell ?_ ?_ _ | refine below_draw ?_ | refine below_drewN ?_ _ | refine below_tr ?_ (by assumption))) <;> (first | omega | (simp; done) | (simp; omega))⟩
  have hv := vr_of h
  have hn32 := hv.l1
  have hm0 := hv.l0
  cases h2 : wn n 0 (r.length - 1)
  · have HE := Lib.hid (show mtE g r n = 7 by unfold mtE; rw [if_pos h, if_neg (by simp [h2])])
    have HI := Lib.hid (show mtI g r n = 0 by unfold mtI; rw [HE.out]; rfl)
    have Q := Lib.hid (r_withinV h2)
    go_enter Try.func30, Try.ntmps30
    go_wp2_with (first | (go_at_call 18; ((with_reducible refine (H1.out _ h).mono ?_); rintro e w1 ⟨rfl, hb1⟩; obtain ⟨hc1, hf1⟩ := bcell hb1; have hz1 := hb1.size; (try simp [sz_drew, sz_drewN] at hz1); (try simp only [sz_drew, sz_drewN] at hc1 hf1))) | (go_at_call 57; ((with_reducible refine (Q.out _).mono ?_); rintro e w' ⟨rfl, rfl⟩)))
    go_ret2
    exact ⟨by rw [HE.out, HI.out]; rfl, by (repeat' (first | assumption | exact below_refl _ | refine bl_alloc ?_ _ | refine Below.setCell ?_ ?_ _ | refine below_draw ?_ | refine below_drewN ?_ _ | refine below_tr ?_ (by assumption))) <;> (first | omega | (simp; done) | (simp; omega))⟩
  have Q := Lib.hid (r_withinV h2)
  obtain ⟨n0, n1⟩ := wn_iff.1 h2
  obtain ⟨q, rfl⟩ := Int.eq_ofNat_of_zero_le n0
  have HEE := Lib.hid (show mtE g r q = if isE r q = true then 0 else 10 by unfold mtE; rw [if_pos h, if_pos h2])
  have HUP := Lib.hid (upZ_low hv (show q < r.length by omega))
  have HVV := Lib.hid hv
  have hql : q < r.length := by omega
  clear hv
  go_enter Try.func30, Try.ntmps30
  go_wp2_with (first | (go_at_call 18; ((with_reducible refine (H1.out _ h).mono ?_); rintro e w1 ⟨rfl, hb1⟩; obtain ⟨hc1, hf1⟩ := bcell hb1; have hz1 := hb1.size; (try simp [sz_drew, sz_drewN] at hz1); (try simp only [sz_drew, sz_drewN] at hc1 hf1))) | (go_at_call 57; ((with_reducible refine (Q.out _).mono ?_); rintro e w' ⟨rfl, rfl⟩)))
  have hR1 := hR.on hb1
  have hS1 := hS.on hb1
  clear hc1 hf1 hz1
  go_loop [8] (fun i => ∃ k : Nat, k ≤ r.length ∧ i = .int .i64 k ∧ Hid ((r.take k).any (fun x => x.fr == (q : Int)) = false)) (fun i => r.length - (intOf i).toNat)
  case atStart => exact ⟨0, by omega, rfl, Lib.hid rfl⟩
  case round =>
    obtain ⟨k, hk, rfl, HA⟩ := hrel
    have k0 : (0 : Int) ≤ (k : Int) := Int.natCast_nonneg _
    by_cases hlt : k < r.length
    · have k1 : (k : Int) < (r.length : Int) := by omega
      obtain ⟨x, b, off, hx, rfl, hb, c0, c1⟩ := rdL hS1 hlt
      have HX := Lib.hid hx
      clear hx
      cases he : (x.fr == (q : Int))
      · have HE1 := Lib.hid (show (r.take (k + 1)).any (fun x => x.fr == (q : Int)) = false by rw [List.take_add_one, HX.out, List.any_append, HA.out]; simpa using he)
        have he' : ¬ x.fr = (q : Int) := by simpa using he
        clear he
        go_wp2
        go_round
        case rel => exact ⟨k + 1, by omega, by go_num, HE1⟩
        case measure => simp [intOf]; omega
      · have HIE := Lib.hid (show isE r q = false by exact isE_no HX.out (by simpa using he))
        have HE := Lib.hid (show mtE g r q = 10 by rw [HEE.out, HIE.out]; rfl)
        have HI := Lib.hid (show mtI g r q = 0 by unfold mtI; rw [HE.out]; rfl)
        go_wp2
        go_ret2
        exact ⟨by rw [HE.out, HI.out]; rfl, hb1⟩
    · obtain rfl : k = r.length := by omega
      have HIE := Lib.hid (show isE r q = true by have := HA.out; rw [List.take_length] at this; unfold isE; rw [this]; rfl)
      have HE := Lib.hid (show mtE g r q = 0 by rw [HEE.out, HIE.out]; rfl)
      have HI := Lib.hid (show mtI g r q = lowC (ldL g r) 1000000 (chn r (q : Int)) by unfold mtI; rw [if_pos HE.out, show ((q : Int)).toNat = q by omega, HUP.out])
      go_wp2
      go_loop [9, 10] (fun m i => ∃ (j s : Int), -1 ≤ j ∧ j < r.length ∧ i = .int .i64 j ∧ m = .int .i64 s ∧ Hid (mtI g r q = lowC (ldL g r) s (chn r j))) (fun _ i => (intOf i + 1).toNat)
      case atStart => exact ⟨q, 1000000, by omega, by omega, rfl, rfl, HI⟩
      case round =>
        obtain ⟨j, s, hj, hj', rfl, rfl, HJ⟩ := hrel
        by_cases hneg : j < 0
        · have HN := Lib.hid (chn_neg (r := r) hneg)
          go_wp2
          go_ret2
          exact ⟨by rw [HE.out, HJ.out, HN.out]; rfl, hb1⟩
        · obtain ⟨m, rfl⟩ := Int.eq_ofNat_of_zero_le (show 0 ≤ j by omega)
          obtain ⟨x, b, off, hx, rfl, hb, c0, c1⟩ := rdL hS1 (show m < r.length by omega)
          have hfz := HVV.out.frs hx
          obtain ⟨hy, _⟩ := HVV.out.it hx
          have f1 := HVV.out.fnd m x hx
          have f2 := (fnd_bd g x.nm).2
          have HF := Lib.hid (HM.out x.nm w1 hb1)
          have hll : (ldL g r)[m]? = some (itR g x).ld := by unfold ldL; rw [List.getElem?_map, hx]; rfl
          have HST := Lib.hid (show lowC (ldL g r) s (chn r (m : Int)) = lowC (ldL g r) (if (itR g x).ld < s then (itR g x).ld else s) (chn r x.fr) by
            rw [chn_step HVV.out hx]; unfold lowC; rw [List.foldl_cons, getD_of hll])
          obtain ⟨v, hn'⟩ := Int.eq_ofNat_of_zero_le f1
          rw [hn'] at f2 hy HF
          obtain ⟨it, gb, goff, hz, hA, hgb, d0, d1, d2, d3⟩ := rdI hR1 (show v < g.length by omega)
          rw [show ((v : Nat) : Int).toNat = v by omega, hz] at hy
          cases hy
          have v0 : (0 : Int) ≤ (v : Int) := Int.natCast_nonneg _
          have m1 : (m : Int) < (r.length : Int) := by omega
          have m0 : (0 : Int) ≤ (m : Int) := by omega
          subst hA
          generalize (itR g x).ld = D at *
          clear hx hz hn' d0 d2 d3 hll
          by_cases hD : D < s
          · go_wp2_with (go_at_call 50; ((with_reducible refine (HF.out).mono ?_); rintro e w' ⟨rfl, rfl⟩))
            go_round
            case rel => exact ⟨x.fr, D, by omega, by omega, rfl, rfl, Lib.hid (by rw [HJ.out, HST.out, if_pos (by omega)])⟩
            case measure => simp [intOf]; omega
          · go_wp2_with (go_at_call 50; ((with_reducible refine (HF.out).mono ?_); rintro e w' ⟨rfl, rfl⟩))
            go_round
            case rel => exact ⟨x.fr, s, by omega, by omega, rfl, rfl, Lib.hid (by rw [HJ.out, HST.out, if_neg (by omega)])⟩
            case measure => simp [intOf]; omega
end Go.Proofs.Ytijlglanpgcdiaa
