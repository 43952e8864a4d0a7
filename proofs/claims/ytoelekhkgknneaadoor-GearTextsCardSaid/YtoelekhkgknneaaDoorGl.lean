/- Gear: Greatest of the program, awake, GearFinds walked. -/
import Derived.Test.YtoelekhkgknneaaDoorGk
set_option linter.unusedSimpArgs false
set_option linter.unusedVariables false
namespace Go.Proofs.YtoelekhkgknneaaDoor
open Go.RowKit Go.Maps

theorem subC_bd {g : List It} {r : List Lk} (hv : VR g r) {N : Int} (hN : 0 ≤ N) : ∀ (f : Nat) (j : Int) (M : List Int), j < r.length → (j + 1).toNat ≤ f → M.length = r.length → Bd M → (∀ i ∈ chn r j, N ≤ M.getD i 0) → Bd (subC M N (chn r j)) ∧ (subC M N (chn r j)).length = r.length
  | 0, j, M, hj, hf, hl, hb, hn => by rw [chn_neg (by omega)]; exact ⟨hb, hl⟩
  | f + 1, j, M, hj, hf, hl, hb, hn => by
    by_cases hneg : j < 0
    · rw [chn_neg hneg]; exact ⟨hb, hl⟩
    · obtain ⟨m, rfl⟩ := Int.eq_ofNat_of_zero_le (show 0 ≤ j by omega)
      obtain ⟨z, hz⟩ := get_lt (show m < r.length by omega)
      obtain ⟨t, ht⟩ := get_lt (show m < M.length by omega)
      have hfz := hv.frs hz
      rw [chn_step hv hz] at hn ⊢
      have hmt := hn m (List.mem_cons_self ..)
      rw [getD_of ht] at hmt
      have h0 := hb m t ht
      have e : subC M N (m :: chn r z.fr) = subC (M.set m (t - N)) N (chn r z.fr) := by unfold subC; rw [List.foldl_cons, getD_of ht]
      rw [e]
      refine subC_bd hv hN f z.fr _ (by omega) (by omega) (by rw [List.length_set]; exact hl) ?_ ?_
      · intro i x hx
        by_cases hi : m = i
        · subst hi
          rw [List.getElem?_set_self (List.getElem?_eq_some_iff.1 ht).1] at hx
          cases hx; omega
        · rw [List.getElem?_set_ne hi] at hx
          exact hb i x hx
      · intro i hi
        have hlt2 := chn_lt hv (m + 1) z.fr (by omega) (by omega) i hi
        rw [List.getD_eq_getElem?_getD, List.getElem?_set_ne (by omega), ← List.getD_eq_getElem?_getD]
        exact hn i (List.mem_cons_of_mem _ hi)
theorem Bd.snoc {l : List Int} {x : Int} (h : Bd l) (h0 : 0 ≤ x) (h1 : x ≤ 1000000) : Bd (l ++ [x]) := by
  intro i y hy
  rcases Nat.lt_or_ge i l.length with hi | hi
  · rw [List.getElem?_append_left hi] at hy; exact h i y hy
  · rw [List.getElem?_append_right hi] at hy
    cases hd : i - l.length with
    | zero => rw [hd] at hy; cases hy; exact ⟨h0, h1⟩
    | succ n => rw [hd] at hy; cases hy
theorem shS_bd {g : List It} {r : List Lk} (hv : VR g r) : ∀ k, k ≤ (endN r r.length).length → Bd (shS r (ldL g r) (endN r r.length) k).1 ∧ (shS r (ldL g r) (endN r r.length) k).1.length = r.length ∧ Bd (shS r (ldL g r) (endN r r.length) k).2
  | 0, _ => ⟨fun i x hx => by have := hv.ld hx; omega, List.length_map .., fun i x hx => by cases hx⟩
  | k + 1, hk => by
    obtain ⟨a, b, d⟩ := shS_bd hv k (by omega)
    obtain ⟨n, hx⟩ := get_lt (show k < (endN r r.length).length by omega)
    have hnr := endN_lt hx
    obtain ⟨y, hy⟩ := get_lt hnr
    obtain ⟨u0, u1, u2⟩ := upZ_bd hv hy a
    rw [shS, show (endN r r.length).getD k 0 = n by simp [List.getD_eq_getElem?_getD, hx]]
    obtain ⟨p, q⟩ := subC_bd hv u0 (n + 1) n _ (by omega) (by omega) b a u2
    exact ⟨p, q, d.snoc u0 u1⟩
theorem shZ_bd {g : List It} {r : List Lk} (hv : VR g r) : Bd (shZ g r) := (shS_bd hv _ (Nat.le_refl _)).2.2
theorem shZ_len {g : List It} {r : List Lk} : (shZ g r).length = (endN r r.length).length := shS_len _ _ _ _
def sumN (l : List Int) (k : Nat) : Int := (l.take k).foldl (· + ·) 0
theorem sumN_step {l : List Int} {k : Nat} {x : Int} (h : l[k]? = some x) : sumN l (k + 1) = sumN l k + x := by
  unfold sumN; rw [List.take_add_one, h]; simp
theorem sumN_bd {l : List Int} (h : Bd l) : ∀ k, k ≤ l.length → 0 ≤ sumN l k ∧ sumN l k ≤ 1000000 * k
  | 0, _ => by simp [sumN]
  | k + 1, hk => by
    obtain ⟨x, hx⟩ := get_lt (show k < l.length by omega)
    have := sumN_bd h k (by omega)
    have := h k x hx
    rw [sumN_step hx]; omega
def grI (g : List It) (r : List Lk) : Int := sumN (onE (shE g r) (shZ g r)) (onE (shE g r) (shZ g r)).length
set_option maxHeartbeats 2000000 in
set_option maxRecDepth 20000 in
theorem p_Greatest (A B : Option Addr) (g : List It) (r : List Lk) (c d : Nat) (w : World) (hl : g.length ≤ 100000) (hn : r.length ≤ 100000) (hR : Rd It.cs 4 w A g) (hW : ∀ x ∈ g, IW x) (hS : Rd Lk.cs 2 w B r) (hV : ∀ x ∈ r, LW x) :
    Calls Tryd.prog 35 #[.slice A g.length c, .slice B r.length d] w fun e w' => e = .returned (.tuple #[.int .i64 (grI g r), .int .i64 (shE g r)]) ∧ Below w.heap.size w w' := by
  have H1 := Lib.hid (p_Shares A B g r c d w hl hn hR hW hS hV)
  obtain ⟨hb, hlen⟩ : Bd (onE (shE g r) (shZ g r)) ∧ (onE (shE g r) (shZ g r)).length ≤ 32 := by
    unfold onE shE
    cases h : (vldG g && vldR g r)
    · simp; intro i x hx; cases hx
    · have hv := vr_of h
      simp only [if_pos]
      have := endN_len r r.length
      have := hv.l1
      exact ⟨shZ_bd hv, by rw [shZ_len]; omega⟩
  have HZ := Lib.hid (show grI g r = sumN (onE (shE g r) (shZ g r)) (onE (shE g r) (shZ g r)).length from rfl)
  generalize grI g r = G at *
  have HGZ := Lib.hid (fun (W W' : World) (v : Value) (h : GotZ W W' v (shE g r) (shZ g r)) => gotZ_rd h)
  generalize onE (shE g r) (shZ g r) = Z at *
  have HB := Lib.hid hb
  clear hR hW hS hV hb
  go_enter Tryd.func35, Tryd.ntmps35
  go_wp2_with (go_at_call 36; ((with_reducible refine (H1.out).mono ?_); rintro e w1 ⟨v, rfl, hv1, hb1⟩; obtain ⟨A1, c1, rfl, hr1⟩ := HGZ.out _ _ _ hv1))
  go_loop [8, 19] (fun s i => ∃ k : Nat, k ≤ Z.length ∧ i = .int .i64 k ∧ s = .int .i64 (sumN Z k)) (fun _ i => Z.length - (intOf i).toNat)
  case atStart => exact ⟨0, by omega, rfl, rfl⟩
  case round =>
    obtain ⟨k, hk, rfl, rfl⟩ := hrel
    have k0 : (0 : Int) ≤ (k : Int) := Int.natCast_nonneg _
    by_cases hlt : k < Z.length
    · have k1 : (k : Int) < (Z.length : Int) := by omega
      obtain ⟨x, b, off, hx, rfl, hb, c0⟩ := rd_int hr1 hlt
      have h0 := sumN_bd HB.out k hk
      have h1 := HB.out k x hx
      have HST := Lib.hid (sumN_step hx)
      generalize sumN Z k = S at *
      clear hx
      go_wp2
      go_round
      case rel => exact ⟨k + 1, by omega, by go_num, by rw [HST.out]⟩
      case measure => simp [intOf]; omega
    · obtain rfl : k = Z.length := by omega
      go_wp2
      go_ret2
      exact ⟨by rw [HZ.out]; rfl, hb1⟩
def awG : List It := [⟨⟨#[98, 101, 97, 109]⟩, 10000, 0, ⟨#[97]⟩⟩, ⟨⟨#[111, 110, 101]⟩, 3000, 0, ⟨#[97]⟩⟩, ⟨⟨#[116, 119, 111]⟩, 8000, 0, ⟨#[97]⟩⟩]
def awR : List Lk := [⟨⟨#[98, 101, 97, 109]⟩, -1⟩, ⟨⟨#[111, 110, 101]⟩, 0⟩, ⟨⟨#[116, 119, 111]⟩, 0⟩]
theorem fndI_d (g : List It) (s : ByteArray) : fndI g s = idxOf (fun x : It => x.nm.data.toList == s.data.toList) g 0 := by unfold fndI; simp only [ByteArray.toList_eq]
theorem fndL_d (g : List Lk) (s : ByteArray) : fndL g s = idxOf (fun x : Lk => x.nm.data.toList == s.data.toList) g 0 := by unfold fndL; simp only [ByteArray.toList_eq]
theorem aw_ok : (vldG awG && vldR awG awR) = true := by
  unfold vldG vldR okI okL
  simp only [fndI_d, fndL_d]
  decide +kernel
theorem aw_sh : shZ awG awR = [3000, 7000] := by
  unfold shZ ldL itR
  simp only [fndI_d]
  decide +kernel
theorem aw_gr : grI awG awR = 10000 := by
  unfold grI onE shE
  rw [if_pos (by rw [if_pos aw_ok]), aw_sh]; decide
theorem aw_mt : mtE awG awR 1 = 0 ∧ mtI awG awR 1 = 3000 := by
  have : mtE awG awR 1 = 0 := by unfold mtE; rw [if_pos aw_ok]; decide +kernel
  refine ⟨this, ?_⟩
  unfold mtI
  rw [if_pos this]
  unfold ldL itR
  simp only [fndI_d]
  decide +kernel
theorem blk_rdG {w : World} {b : Nat} (h : Blk w b 52 #[.string ⟨#[98, 101, 97, 109]⟩, .int .i64 10000, .int .i64 0, .string ⟨#[97]⟩, .string ⟨#[111, 110, 101]⟩, .int .i64 3000, .int .i64 0, .string ⟨#[97]⟩, .string ⟨#[116, 119, 111]⟩, .int .i64 8000, .int .i64 0, .string ⟨#[97]⟩]) : Rd It.cs 4 w (some ⟨b, 0, none⟩) awG := fun _ => by
  refine ⟨b, 0, rfl, h.lt, fun k x hx j v hv => ?_⟩
  have hk : k < 3 := (List.getElem?_eq_some_iff.1 hx).1
  rw [Nat.zero_add, h.cell]
  rcases (by omega : k = 0 ∨ k = 1 ∨ k = 2) with rfl | rfl | rfl <;> (cases hx; have hj : j < 4 := (List.getElem?_eq_some_iff.1 hv).1; rcases (by omega : j = 0 ∨ j = 1 ∨ j = 2 ∨ j = 3) with rfl | rfl | rfl | rfl <;> exact hv)
theorem blk_rdR {w : World} {b : Nat} (h : Blk w b 54 #[.string ⟨#[98, 101, 97, 109]⟩, .int .i64 (-1), .string ⟨#[111, 110, 101]⟩, .int .i64 0, .string ⟨#[116, 119, 111]⟩, .int .i64 0]) : Rd Lk.cs 2 w (some ⟨b, 0, none⟩) awR := fun _ => by
  refine ⟨b, 0, rfl, h.lt, fun k x hx j v hv => ?_⟩
  have hk : k < 3 := (List.getElem?_eq_some_iff.1 hx).1
  rw [Nat.zero_add, h.cell]
  rcases (by omega : k = 0 ∨ k = 1 ∨ k = 2) with rfl | rfl | rfl <;> (cases hx; have hj : j < 2 := (List.getElem?_eq_some_iff.1 hv).1; rcases (by omega : j = 0 ∨ j = 1) with rfl | rfl <;> exact hv)
theorem blk_rdS {w : World} {b : Nat} (h : Blk w b 3 #[.int .i64 3000, .int .i64 7000]) : Rd zC 1 w (some ⟨b, 0, none⟩) [3000, 7000] := fun _ => by
  refine ⟨b, 0, rfl, h.lt, fun k x hx j v hv => ?_⟩
  have hk : k < 2 := (List.getElem?_eq_some_iff.1 hx).1
  rw [Nat.zero_add, h.cell]
  rcases (by omega : k = 0 ∨ k = 1) with rfl | rfl <;> (cases hx; have hj : j < 1 := (List.getElem?_eq_some_iff.1 hv).1; rcases (by omega : j = 0) with rfl; exact hv)
theorem aw_gw : ∀ x ∈ awG, IW x := by
  intro x hx
  unfold awG at hx
  simp only [List.mem_cons, List.not_mem_nil, or_false] at hx
  rcases hx with rfl | rfl | rfl <;> exact ⟨by decide, by decide, by decide, by decide, by decide, by decide⟩
theorem aw_rw : ∀ x ∈ awR, LW x := by
  intro x hx
  unfold awR at hx
  simp only [List.mem_cons, List.not_mem_nil, or_false] at hx
  rcases hx with rfl | rfl | rfl <;> exact ⟨by decide, by decide, by decide⟩
set_option maxHeartbeats 1000000 in
set_option maxRecDepth 20000 in
theorem l_awake (w : World) : Calls Tryd.prog 7 #[] w fun e w' => e = .returned (.bool true) ∧ Below w.heap.size w w' := by
  have HG := Lib.hid (fun (b1 b2 : Nat) W hR hS => p_Greatest (some ⟨b1, 0, none⟩) (some ⟨b2, 0, none⟩) awG awR 3 3 W (by decide) (by decide) hR aw_gw hS aw_rw)
  have HS := Lib.hid (fun (b1 b2 : Nat) W hR hS => p_Shares (some ⟨b1, 0, none⟩) (some ⟨b2, 0, none⟩) awG awR 3 3 W (by decide) (by decide) hR aw_gw hS aw_rw)
  have HM := Lib.hid (fun (b1 b2 : Nat) W hR hS => p_Most (some ⟨b1, 0, none⟩) (some ⟨b2, 0, none⟩) awG awR 3 3 1 W (by decide) (by decide) hR aw_gw hS aw_rw)
  rw [show awG.length = 3 from rfl, show awR.length = 3 from rfl] at HG HS HM
  rw [aw_gr, show shE awG awR = 0 by unfold shE; rw [if_pos aw_ok]] at HG
  rw [aw_sh, show shE awG awR = 0 by unfold shE; rw [if_pos aw_ok]] at HS
  rw [aw_mt.1, aw_mt.2] at HM
  go_enter Tryd.func7, Tryd.ntmps7
  go_wp2_with fail
  have k0 := (Blk.new w 52 #[.string ⟨#[98, 101, 97, 109]⟩, .int .i64 10000, .int .i64 0, .string ⟨#[97]⟩, .string ⟨#[111, 110, 101]⟩, .int .i64 3000, .int .i64 0, .string ⟨#[97]⟩, .string ⟨#[116, 119, 111]⟩, .int .i64 8000, .int .i64 0, .string ⟨#[97]⟩]).alloc (.cells #[.string ⟨#[98, 101, 97, 109]⟩, .int .i64 (-1), .string ⟨#[111, 110, 101]⟩, .int .i64 0, .string ⟨#[116, 119, 111]⟩, .int .i64 0] 54)
  have k1 := Blk.new (w.alloc (.cells #[.string ⟨#[98, 101, 97, 109]⟩, .int .i64 10000, .int .i64 0, .string ⟨#[97]⟩, .string ⟨#[111, 110, 101]⟩, .int .i64 3000, .int .i64 0, .string ⟨#[97]⟩, .string ⟨#[116, 119, 111]⟩, .int .i64 8000, .int .i64 0, .string ⟨#[97]⟩] 52)) 54 #[.string ⟨#[98, 101, 97, 109]⟩, .int .i64 (-1), .string ⟨#[111, 110, 101]⟩, .int .i64 0, .string ⟨#[116, 119, 111]⟩, .int .i64 0]
  have B0 : Below w.heap.size w ((w.alloc (.cells #[.string ⟨#[98, 101, 97, 109]⟩, .int .i64 10000, .int .i64 0, .string ⟨#[97]⟩, .string ⟨#[111, 110, 101]⟩, .int .i64 3000, .int .i64 0, .string ⟨#[97]⟩, .string ⟨#[116, 119, 111]⟩, .int .i64 8000, .int .i64 0, .string ⟨#[97]⟩] 52)).alloc (.cells #[.string ⟨#[98, 101, 97, 109]⟩, .int .i64 (-1), .string ⟨#[111, 110, 101]⟩, .int .i64 0, .string ⟨#[116, 119, 111]⟩, .int .i64 0] 54)) := bl_alloc (bl_alloc (below_refl _) _) _
  simp only [World.size_alloc] at k1
  generalize (w.alloc (.cells #[.string ⟨#[98, 101, 97, 109]⟩, .int .i64 10000, .int .i64 0, .string ⟨#[97]⟩, .string ⟨#[111, 110, 101]⟩, .int .i64 3000, .int .i64 0, .string ⟨#[97]⟩, .string ⟨#[116, 119, 111]⟩, .int .i64 8000, .int .i64 0, .string ⟨#[97]⟩] 52)).alloc (.cells #[.string ⟨#[98, 101, 97, 109]⟩, .int .i64 (-1), .string ⟨#[111, 110, 101]⟩, .int .i64 0, .string ⟨#[116, 119, 111]⟩, .int .i64 0] 54) = W at *
  refine (HG.out _ _ _ (blk_rdG k0) (blk_rdR k1)).mono ?_
  rintro e w1 ⟨rfl, hb1⟩
  have B1 := below_tr B0 hb1
  have j0 := k0.below hb1 k0.lt
  have j1 := k1.below hb1 k1.lt
  clear hb1 k0 k1 B0
  go_wp2_with fail
  refine (HS.out _ _ _ (blk_rdG j0) (blk_rdR j1)).mono ?_
  rintro e w2 ⟨v, rfl, hv, hb2⟩
  obtain ⟨A2, c2, rfl, hr2⟩ := gotZ_rd hv
  have B2 := below_tr B1 hb2
  have l0 := j0.below hb2 j0.lt
  have l1 := j1.below hb2 j1.lt
  clear hb2 j0 j1 B1 hv
  rw [show onE 0 [3000, 7000] = [3000, 7000] from rfl] at hr2 ⊢
  go_wp2_with fail
  refine (HM.out _ _ _ (blk_rdG l0) (blk_rdR l1)).mono ?_
  rintro e w3 ⟨rfl, hb3⟩
  have B3 := below_tr B2 hb3
  have hr3 := hr2.on hb3
  clear hb3 l0 l1 B2 hr2
  go_wp2_with fail
  refine (r_sameInts A2 (some ⟨w3.heap.size, 0, none⟩) [3000, 7000] c2 2 _ (by decide) (hr3.on (below_alloc _ _)) (blk_rdS (Blk.new _ _ _))).mono ?_
  rintro e w4 ⟨rfl, hb4⟩
  go_wp2
  go_ret
  exact ⟨rfl, below_tr (bl_alloc B3 _) hb4⟩
end Go.Proofs.YtoelekhkgknneaaDoor
