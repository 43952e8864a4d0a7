/- Fell: Hull of both, spots compared, the hull's corners. -/
import Derived.Test.YtkeojokbpjdhpaaFwh
set_option linter.unusedSimpArgs false
set_option linter.unusedVariables false
namespace Go.Proofs.Ytkeojokbpjdhpaa
open Go.RowKit

theorem r_HullNo (A : Option Addr) (l : List Pr) (c : Nat) (w : World) (hl : l.length ≤ 100000) (hv : vP l = false) (hR : Rd Pr.cs 3 w A l) :
    Calls Try.prog 12 #[.slice A l.length c] w fun e w' => e = .returned (.tuple #[.slice none 0 0, .int .i64 1]) ∧ Below w.heap.size w w' := by
  have HV := Lib.hid (r_Valid A l c w hl hR)
  rw [hv] at HV
  go_enter Try.func12, Try.ntmps12
  go_wp2_with fail
  refine HV.out.mono ?_
  rintro e w1 ⟨rfl, hb1⟩
  go_wp2
  go_ret2
  exact ⟨rfl, hb1⟩
theorem p_HullNo (A : Option Addr) (l : List Pr) (c : Nat) (w : World) (hl : l.length ≤ 100000) (hv : vP l = false) (hR : Rd Pr.cs 3 w A l) :
    Calls Try.prog 11 #[.slice A l.length c] w fun e w' => e = .returned (.tuple #[.slice none 0 0, .int .i64 1]) ∧ Below w.heap.size w w' := by
  have HV := Lib.hid (p_Valid A l c w hl hR)
  rw [hv] at HV
  go_enter Try.func11, Try.ntmps11
  go_wp2_with fail
  refine HV.out.mono ?_
  rintro e w1 ⟨rfl, hb1⟩
  go_wp2
  go_ret2
  exact ⟨rfl, hb1⟩
def PHul (l : List Pr) (w : World) (e : Ending) (w' : World) : Prop :=
  ∃ v s, e = .returned (.tuple #[v, .int .i64 0]) ∧ s.Perm (spL l) ∧ Asc s ∧ OwnP w.heap.size w' v (hul s) ∧ Below w.heap.size w w'
theorem p_Hull (A : Option Addr) (l : List Pr) (c : Nat) (w : World) (hv : vP l = true) (hR : Rd Pr.cs 3 w A l) :
    Calls Try.prog 11 #[.slice A l.length c] w (PHul l w) := by
  have hl := vP_len hv
  have HV := Lib.hid (p_Valid A l c w (by omega) hR)
  have HP := Lib.hid (fun (W : World) (hb : Below w.heap.size w W) => p_spots A l c W (by omega) (hR.on hb))
  have HH := Lib.hid (fun (W : World) (A : Option Addr) (c : Nat) (hR : Rd Sp.cs 2 W A (spL l)) => p_hull A (spL l) c W (by rw [spL_len]; exact hl) (vP_bd hv) (vP_nodup hv) hR)
  rw [hv] at HV
  unfold PHul
  clear hv
  go_enter Try.func11, Try.ntmps11
  go_wp2_with fail
  refine HV.out.mono ?_
  rintro e w1 ⟨rfl, hb1⟩
  go_wp2_with fail
  refine (HP.out _ hb1).mono ?_
  rintro e w2 ⟨v2, rfl, ho2, hb2⟩
  obtain ⟨A2, c2, rfl, hR2⟩ := own_rd Sp.cs_len ho2
  have B2 := below_tr hb1 hb2
  go_wp2_with fail
  refine (HH.out _ _ _ hR2).mono ?_
  rintro e w3 ⟨v3, s, rfl, hp, ha, ho3, hb3⟩
  go_wp2
  go_ret2
  exact ⟨_, s, rfl, hp, ha, own_base ho3 B2.size, below_tr B2 hb3⟩
set_option maxHeartbeats 1000000 in
theorem l_spots (A B : Option Addr) (l : List Sp) (c d : Nat) (w : World) (hl : l.length ≤ 100000) (hA : Rd Sp.cs 2 w A l) (hB : Rd Sp.cs 2 w B l) :
    Calls Try.prog 15 #[.slice A l.length c, .slice B l.length d] w fun e w' => e = .returned (.bool true) ∧ Below w.heap.size w w' := by
  go_enter Try.func15, Try.ntmps15
  go_wp2
  go_loopw [5] (fun i wr => ∃ k : Nat, k ≤ l.length ∧ i = .int .i64 k ∧ Below w.heap.size w wr) (fun i _ => l.length - (intOf i).toNat)
  case atStart => exact ⟨0, by omega, rfl, below_refl _⟩
  case round =>
    obtain ⟨k, hk, rfl, hbw⟩ := hrel
    have k0 : (0 : Int) ≤ (k : Int) := Int.natCast_nonneg _
    by_cases hlt : k < l.length
    · have k1 : (k : Int) < (l.length : Int) := by omega
      obtain ⟨x, b, off, hx, rfl, hb, c0, c1⟩ := rdS (hA.on hbw) hlt
      obtain ⟨y, b2, off2, hy, rfl, hb2, d0, d1⟩ := rdS (hB.on hbw) hlt
      obtain rfl : y = x := by have := hy.symm.trans hx; exact Option.some.inj this
      clear hx hy
      go_wp2_with fail
      go_region
      go_wp2
      go_roundw
      case rel => exact ⟨k + 1, by omega, by go_num, by (repeat' (first | assumption | exact below_refl _ | refine bl_alloc ?_ _ | refine Below.setCell ?_ ?_ _ | refine below_draw ?_ | refine below_drewN ?_ _ | refine below_tr ?_ (by assumption))) <;> (first | omega | (simp; done) | (simp; omega))⟩
      case measure => simp [intOf]; omega
    · obtain rfl : k = l.length := by omega
      go_wp2
      go_ret
      exact ⟨rfl, hbw⟩
/-- the corners as props -/
def crP (x : Sp) : Pr := ⟨x, false⟩
theorem spL_cr (h : List Sp) : spL (h.map crP) = h := by unfold spL; rw [List.map_map]; exact List.map_id' h
theorem cr_vP {l : List Pr} {s : List Sp} (hv : vP l = true) (hp : s.Perm (spL l)) (ha : Asc s) : vP ((hul s).map crP) = true := by
  rw [vP_iff] at hv ⊢
  obtain ⟨h1, h2, h3⟩ := hv
  refine ⟨fun x hx => ?_, by rw [spL_cr]; exact hul_nodup ha, ?_⟩
  · obtain ⟨y, hy, rfl⟩ := List.mem_map.1 hx
    obtain ⟨z, hz, e⟩ := List.mem_map.1 (hp.mem_iff.1 (hul_sub ha y hy))
    show isS y = true
    rw [← e]; exact h1 z hz
  · rw [List.length_map]
    have := nodup_len (hul_nodup ha) (hul_sub ha)
    have := hp.length_eq
    rw [spL_len] at this
    omega
theorem cr_stE {l : List Pr} {s : List Sp} {t : Sp} (he : stE l t = 0) (hp : s.Perm (spL l)) (ha : Asc s) : stE ((hul s).map crP) t = 0 := by
  obtain ⟨hv, hs⟩ := stE_z he
  exact askE_ok (cr_vP hv hp ha) (by simp [hs])
theorem cr_stD {l : List Pr} {s : List Sp} {t : Sp} (he : stE l t = 0) (hp : s.Perm (spL l)) (ha : Asc s) : stD ((hul s).map crP) t = stD l t := by
  rw [stD_ok (cr_stE he hp ha), stD_ok he, spL_cr, Bool.eq_iff_iff, heldB_iff, heldB_iff, ← held_perm hp]
  exact ⟨fun h => h.mono (hul_sub ha), fun h => hul_holds ha h⟩
end Go.Proofs.Ytkeojokbpjdhpaa
